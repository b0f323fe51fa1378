/- The library's Insert at pairs, one pair, by its contract. No statement of the claim. -/
import Derived.Test.YtbfpfgfgfjhpfaaGreatDoorPlA
import Derived.Test.YtbfpfgfgfjhpfaaGreatDoorSq
import Derived.Lib.Overlaps
import Derived.Lib.AppendZeros
import Derived.Lib.AppendZerosOnto
import Derived.Lib.SliceRun
import Derived.Laws.NewBlocks
import Derived.Laws.Externs
import Derived.Deep.LoopGhost
import Derived.OrdersHeld
import Derived.Lib.Hide
namespace Go.Proofs.YtbfpfgfgfjhpfaaGreatDoor
set_option maxRecDepth 100000
set_option maxHeartbeats 4000000
open Go.RowKit Go.Shelf dP zW Go
section
variable {k v : Int} {base c g i n vb : Nat} {w : World} {xs : List Value} {tv : TypeId}
theorem Ql (w:World):(Go.sizeOf 37).run Tryz.prog w= .ok 2 w:=by kernel_rfl
theorem wN:(Tryz.prog.info? 37).map (·.size)=some 2:=by kernel_rfl
theorem EG:∀x∈[Value.int .u64 k,Value.int .u64 v],x.oneCell'=true:=by
 intro x hx;simp only[List.mem_cons,List.not_mem_nil,or_false]at hx
 rcases hx with rfl|rfl<;>rfl
theorem Nv (c0:w.cell? ⟨vb,0,none⟩=some (.int .u64 k))(c1:w.cell? ⟨vb,1,none⟩=some (.int .u64 v)):∀(j:Nat) (u:Value),[Value.int .u64 k,Value.int .u64 v][j]?=some u→w.cell? ((⟨vb,0,none⟩:Addr).add j)=some u:=by
 intro j u hj
 have hadd:(⟨vb,0,none⟩:Addr).add j=⟨vb,j,none⟩:=by unfold Addr.add;split<;>simp_all
 rw[hadd]
 match j,hj with
 |0,hj=>obtain rfl:=Option.some.inj hj;exact c0
 |1,hj=>obtain rfl:=Option.some.inj hj;exact c1
 |j+2,hj=>simp at hj
def Gi (base n:Nat)(v0:Value)(xs:List Value)(w:World)(e:Ending)(w':World):Prop:=
 ∃v',e= .returned v'∧w'.ownsRow base 37 2 v' (n+1) xs∧Mod v0.ownBlock.toList w w'∧∀q∈v'.ownBlock.toList,q∈v0.ownBlock.toList∨w.heap.size≤q
theorem SX {A:Option Addr}(ho:w.ownsRow base 37 2 (.slice A n c) n xs)(hB:aj w vb tv #[.int .u64 k,.int .u64 v])(hn:n≤100000)(hbw:base≤w.heap.size):
  Calls Tryz.prog 37 #[.slice A n c,.int .i64 (n:Int),.slice (some ⟨vb,0,none⟩) 1 1] w (Gi base n (.slice A n c) (xs++[.int .u64 k,.int .u64 v]) w):=by
 obtain⟨c0,c1⟩:=hB.c2;have HA:=qd (Nv c0 c1);have HO:=qd ho;obtain⟨i0,hi0,hz0,hz1,hz2⟩:=info_parts uP;have HI:=qd (And.intro hi0 (And.intro hz0 (And.intro hz1 hz2)));have hcap:=Nr ho;clear ho hB hi0 hz0 hz1 hz2 c0 c1
 have hfin:∀v' w1,w1.ownsRow base 37 2 v' (n+1) (xs++[.int .u64 k,.int .u64 v])→w.grownBy w1 (Value.slice A n c).ownBlock→(v'.ownBlock=(Value.slice A n c).ownBlock∨v'.ownBlock=some w.heap.size)→Gi base n (.slice A n c) (xs++[.int .u64 k,.int .u64 v]) w (.returned v') w1:=by
  intro v' w1 hown hg hat;refine⟨v',rfl,hown,⟨hg.os,hg.tape,hg.output,hg.size,fun q hq hne=>hg.block q hq (fun e=>hne (by simp[e]))⟩,fun q hq=> ?_⟩;rcases hat with hat|hat
  ·exact .inl (by rw[←hat];exact hq)
  ·refine .inr ?_;rw[hat]at hq
   have:q=w.heap.size:=by simpa using hq
   omega
 have HFin:=qd hfin;clear hfin;rcases hcap with⟨rfl,rfl,rfl⟩|⟨g,rfl,_⟩
 ·go_in;go_wp2_with (at_builtin;refine wpList_append_own_at _ rfl _ _ 22 rfl base 37 i0 _ 2 16 Tryz.underlying22 HI.out.1 HI.out.2.1 HI.out.2.2.1 HI.out.2.2.2 rfl (by omega) _ _ _ rfl HO.out ⟨vb,0,none⟩ 1 1 [.int .u64 k,.int .u64 v] rfl rfl HA.out EG (by simp[maxLen]) (by omega) hbw ?_;intro v' w1 hown hg _ hat;have HP:=qd (HFin.out v' w1 hown hg hat);clear hown hg hat);go_ret;exact HP.out
 ·go_in;go_wp2_with (at_builtin;refine wpList_append_own_at _ rfl _ _ 22 rfl base 37 i0 _ 2 16 Tryz.underlying22 HI.out.1 HI.out.2.1 HI.out.2.2.1 HI.out.2.2.2 rfl (by omega) _ _ _ rfl HO.out ⟨vb,0,none⟩ 1 1 [.int .u64 k,.int .u64 v] rfl rfl HA.out EG (by simp[maxLen];omega) (by omega) hbw ?_;intro v' w1 hown hg _ hat;have HP:=qd (HFin.out v' w1 hown hg hat);clear hown hg hat)
  all_goals go_ret
  all_goals exact HP.out
theorem Nw (ho:w.ownsRow base 37 2 (.slice (some ⟨g,0,none⟩) n c) n xs)(hB:aj w vb tv #[.int .u64 k,.int .u64 v])(hne:vb≠g)(hi:i<n)(hroom:n+1≤c)(h1x:∀v∈xs,v.oneCell'=true):
  Calls Tryz.prog 37 #[.slice (some ⟨g,0,none⟩) n c,.int .i64 (i:Int),.slice (some ⟨vb,0,none⟩) 1 1] w (Gi base n (.slice (some ⟨g,0,none⟩) n c) (xs.take (i*2)++([.int .u64 k,.int .u64 v]++xs.drop (i*2))) w):=by
 obtain⟨c0,c1⟩:=hB.c2;have ab8:=hB.lt;have Ct:w.heap[vb]?=some (.cells #[.int .u64 k,.int .u64 v] tv (0,0)):=hB;have hxl:=ho.1
 obtain⟨cap,cur,hbg,hh,hcc,hmax,hsz,htk,rfl⟩:∃cap cur,base≤g∧w.heap[g]?=some (.cells cur 37 (0,0))∧n≤cap∧cap≤maxLen∧cur.size=cap*2∧cur.toList.take (n*2)=xs∧cap=c:=by
  rcases ho.2 with⟨h,_⟩|⟨g',cap,cur,hv,h1,h2,h3,h4,h5,h6⟩
  ·cases h
  ·injection hv with hv _ hc
   injection hv with hv
   injection hv with hv _ _
   subst hv;exact⟨cap,cur,h1,h2,h3,h4,h5,h6,hc.symm⟩
 obtain⟨L1,hL1⟩:∃L1,L1=splice cur.toList ((i+1)*2) (xs.drop (i*2)):=⟨_,rfl⟩;obtain⟨L2,hL2⟩:∃L2,L2=splice L1 (i*2) [.int .u64 k,.int .u64 v]:=⟨_,rfl⟩
 have hl1:L1.length=cap*2:=by rw[hL1,lJ (by rw[List.length_drop,hxl,Array.length_toList];omega),Array.length_toList,hsz]
 have hl2:L2.length=cap*2:=by rw[hL2,lJ (by rw[hl1];simp;omega),hl1]
 have yV:L2.take ((n+1)*2)=xs.take (i*2)++([.int .u64 k,.int .u64 v]++xs.drop (i*2)):=by
  have:=Vd (L:=cur.toList) (vs:=[Value.int .u64 k,.int .u64 v]) (d:=i*2) htk (by omega) (by rw[Array.length_toList];simp;omega);rw[hL2,hL1,show(i+1)*2=i*2+[Value.int .u64 k,.int .u64 v].length by simp;omega,show(n+1)*2=n*2+[Value.int .u64 k,.int .u64 v].length by simp;omega];exact this
 have hgl:g<w.heap.size:=(Array.getElem?_eq_some_iff.1 hh).1;obtain⟨W1,hW1⟩:∃W1,W1=w.drew.setRow g L1.toArray:=⟨_,rfl⟩
 have Gj:W1.heap[g]?=some (.cells L1.toArray 37 (0,0)):=by rw[hW1];exact setRow_heap w.drew g cur _ _ _ hh
 have hcp1:∀ty dc sc,(Builtin.copy_ #[22,22] ty #[.slice (some ⟨g,(i+1)*2,none⟩) (n-i) dc,.slice (some ⟨g,i*2,none⟩) (n+1-i) sc]).run Tryz.prog w.drew= .ok (goInt (Nat.min (n+1-i) (n-i))) W1:=fun ty dc sc=>by
  rw[hW1,hL1];refine yT w.drew _ _ ty 37 2 g ((i+1)*2) (n-i) dc ⟨g,i*2,none⟩ (n+1-i) sc cur 37 (xs.drop (i*2)) Tryz.underlying22 wN hh ?_ ?_ ?_ ?_
  ·rw[List.length_drop,hxl];simp only[Nat.min_def];split<;>omega
  ·intro j u hj
   have hadd:(⟨g,i*2,none⟩:Addr).add j=⟨g,i*2+j,none⟩:=by unfold Addr.add;split<;>simp_all
   rw[hadd];show(match w.heap[g]? with|some (.cells cs _ _)=>cs[i*2+j]?|_=>none)=_;rw[hh];rw[List.getElem?_drop,←htk,List.getElem?_take]at hj;split at hj
   ·simpa using hj
   ·cases hj
  ·rw[List.length_drop,hxl,hsz];omega
  ·exact fun v hv=>h1x v (List.mem_of_mem_drop hv)
 have hcp2:∀(W:World),W.heap=W1.heap→∀ty dc,(Builtin.copy_ #[22,22] ty #[.slice (some ⟨g,i*2,none⟩) (n+1-i) dc,.slice (some ⟨vb,0,none⟩) 1 1]).run Tryz.prog W= .ok (goInt (Nat.min 1 (n+1-i))) (W.setRow g L2.toArray):=fun W hW ty dc=>by
  rw[hL2]
  have hcell:∀p:Addr,p.block=vb→W.cell? p=w.cell? p:=fun p hp=>by
   have:W.heap[p.block]?=w.heap[p.block]?:=by
    rw[hW,hW1,setRow_other w.drew g p.block _ (by rw[hp];exact hne)];rfl
   unfold World.cell?;rw[this]
  have:=yT W 22 22 ty 37 2 g (i*2) (n+1-i) dc ⟨vb,0,none⟩ 1 1 L1.toArray 37 [.int .u64 k,.int .u64 v] Tryz.underlying22 wN (by rw[hW];exact Gj) (by simp only[Nat.min_def];split<;>simp<;>omega)
   (Nv (by rw[hcell _ rfl];exact c0) (by rw[hcell _ rfl];exact c1)) (by simp[hl1];omega) EG
  simpa using this
 have hov:∀lb cb,(callFunc 62 #[.slice (some ⟨vb,0,none⟩) 1 1,.slice (some ⟨g,(i+1)*2,none⟩) lb cb]).run Tryz.prog w= .ok (.value (.bool false)) w:=fun lb cb=>by
  rw[run_callFunc_extern Tryz.func62 (by kernel_rfl) (by kernel_rfl) (by kernel_rfl) (e:=Extern.SlicesOverlaps.overlaps #[22,22] #[4]) (by kernel_rfl),
   Lib.run_overlaps_apart w 22 4 37 Tryz.underlying22 2 Ql ⟨vb,0,none⟩ ⟨g,(i+1)*2,none⟩ 1 1 lb cb hne tv 37 2 (cap*2) (by simp[World.shape?,Ct]) (by simp[World.shape?,hh,hsz]) (by omega) (by simp[World.frozen?,Ct]) (by simp[World.frozen?,Ct])]
  rfl
 have HFin:=qd (fun(W:World) (hW:W.heap=W1.heap) (h1:W.os=w.os) (h2:W.tape=w.tape) (h3:W.output=w.output)=>show Gi base n (.slice (some ⟨g,0,none⟩) n cap) (xs.take (i*2)++([.int .u64 k,.int .u64 v]++xs.drop (i*2))) w (.returned (.slice (some ⟨g,0,none⟩) (n+1) cap)) (W.setRow g L2.toArray)from by
  have hr:=Bq (n:=n+1) (cur':=L2.toArray) (xs:=xs.take (i*2)++([.int .u64 k,.int .u64 v]++xs.drop (i*2))) (show W.heap[g]?=_ by rw[hW];exact Gj) hbg hroom hmax (by simpa using hl2) (by simpa using yV);refine⟨_,rfl,hr.1,⟨h1,h2,h3,by simp[World.setRow,hW,hW1],fun q hq hn=> ?_⟩,fun q hq=> .inl hq⟩;have hqg:q≠g:=fun e=>hn (by simp[Value.ownBlock,e]);rw[setRow_other W g q _ hqg,hW,hW1,setRow_other w.drew g q _ hqg]
  rfl)
 have mixed:Tryz.prog.follows Departure.mixedOrders=true:=by kernel_rfl
 have hb1:(0:Int)≤(i:Int)+1:=by omega
 have hz2:¬((i:Int)=(n:Int)):=by omega
 have hw1:IntKind.i64.wrap ((i:Int)+1)=(i:Int)+1:=by rw[IntKind.wrap_i64];unfold maxLen at hmax;omega
 have hw2:IntKind.i64.wrap ((n:Int)+1)=(n:Int)+1:=by rw[IntKind.wrap_i64];unfold maxLen at hmax;omega
 have hin:i≤n:=by omega
 have htn:((i:Int)+1).toNat=i+1:=by omega
 have afA:((n:Int)+1).toNat=n+1:=by omega
 have hb2:¬(cap=i+1):=by omega
 have hb3:(i:Int)≤(n:Int)+1:=by omega
 have hb4:¬(cap=i):=by omega
 have hE:∀(W:World),W.heap=W1.heap→W.os=w.os→W.tape=w.tape→W.output=w.output→True:=fun _ _ _ _ _=>trivial;obtain⟨ys,hys⟩:∃ys,ys=xs.take (i*2)++([Value.int .u64 k,.int .u64 v]++xs.drop (i*2)):=⟨_,rfl⟩;rw[←hys]at HFin⊢;clear hys hL1 hL2 yV Gj hh htk hl1 hl2 c0 c1 hB ho hE hmax hsz;go_in;go_wp2_with (simp only[hov]);go_region_law_o (refine step_copy_runI rfl _ _ 22 22 rfl _ _ (by simp[Act.eval,Act.put]) (by simp[Act.eval,Act.put]) (hcp1 _ _ _) ?_);go_wp2_with (at_builtin;refine wpList_copy_runI _ rfl _ _ 22 22 rfl _ _ rfl rfl (hcp2 _ rfl _ _) ?_);go_ret;subst hW1;exact HFin.out _ rfl rfl rfl rfl
theorem Qm (ho:w.ownsRow base 37 2 (.slice (some ⟨g,0,none⟩) n c) n xs)(hB:aj w vb tv #[.int .u64 k,.int .u64 v])(hi:i<n)(hroom:c<n+1)(h1x:∀v∈xs,v.oneCell'=true)(hn:n≤100000)(hbw:base≤w.heap.size):
  Calls Tryz.prog 37 #[.slice (some ⟨g,0,none⟩) n c,.int .i64 (i:Int),.slice (some ⟨vb,0,none⟩) 1 1] w (Gi base n (.slice (some ⟨g,0,none⟩) n c) (xs.take (i*2)++([.int .u64 k,.int .u64 v]++xs.drop (i*2))) w):=by
 obtain⟨c0,c1⟩:=hB.c2;have ab8:=hB.lt;have Ct:w.heap[vb]?=some (.cells #[.int .u64 k,.int .u64 v] tv (0,0)):=hB;have hxl:=ho.1
 obtain⟨cap,cur,hbg,hh,hcc,hmax,hsz,htk,rfl⟩:∃cap cur,base≤g∧w.heap[g]?=some (.cells cur 37 (0,0))∧n≤cap∧cap≤maxLen∧cur.size=cap*2∧cur.toList.take (n*2)=xs∧cap=c:=by
  rcases ho.2 with⟨h,_⟩|⟨g',cap,cur,hv,h1,h2,h3,h4,h5,h6⟩
  ·cases h
  ·injection hv with hv _ hc
   injection hv with hv
   injection hv with hv _ _
   subst hv;exact⟨cap,cur,h1,h2,h3,h4,h5,h6,hc.symm⟩
 have hgl:g<w.heap.size:=(Array.getElem?_eq_some_iff.1 hh).1;obtain⟨i0,hi0,hz0,hz1,hz2⟩:=info_parts uP
 have hxc:∀(W:World) (hW:W.heap[g]?=w.heap[g]?) (d:Nat) (ys:List Value),(∀j u,ys[j]?=some u→xs[d+j]?=some u)→∀(j:Nat) (u:Value),ys[j]?=some u→W.cell? ((⟨g,d,none⟩:Addr).add j)=some u:=by
  intro W hW d ys hys j u hj
  have hadd:(⟨g,d,none⟩:Addr).add j=⟨g,d+j,none⟩:=by unfold Addr.add;split<;>simp_all
  rw[hadd];show(match W.heap[g]? with|some (.cells cs _ _)=>cs[d+j]?|_=>none)=_;rw[hW,hh];have h:=hys j u hj;rw[←htk,List.getElem?_take]at h;split at h
  ·simpa using h
  ·cases h
 have hold:(Builtin.firstCells i0.size i (.slice (some ⟨g,0,none⟩) i cap)).run Tryz.prog w.drew= .ok (xs.take (i*2)).toArray w.drew:=by
  rw[hz1]
  exact run_firstCells_some w.drew 2 i ⟨g,0,none⟩ i cap (xs.take (i*2)) (by rw[List.length_take];omega) (hxc w.drew rfl 0 _ (fun j u hj=>by
   rw[List.getElem?_take]at hj;split at hj
   ·rw[Nat.zero_add];exact hj
   ·cases hj))
 obtain⟨G,hG⟩:∃G,G=grownCap w (n+1) cap 37 :=⟨_,rfl⟩;obtain⟨Z,hZ⟩:∃Z:Array Value,Z=Builtin.zeroCells (Value.agg #[.int .u64 0,.int .u64 0]).cells (n+1-i)++Builtin.zeroCells (Value.agg #[.int .u64 0,.int .u64 0]).cells (G-(n+1)):=⟨_,rfl⟩
 have hGn:n+1≤G:=by rw[hG];exact grownCap_ge w _ _ _
 have hG63:G≤maxLen:=by
  rw[hG];exact grownCap_le_maxLen w (n+1) cap 37 (by unfold maxLen;omega)
 have hZl:Z.size=(n+1-i)*2+(G-(n+1))*2:=by
  rw[hZ];simp[Builtin.zeroCells,Value.cells]
 have hrz:∀ty,(Builtin.append_ #[22,3] ty #[.slice (some ⟨g,0,none⟩) i cap,.int .i64 ((n:Int)+1-(i:Int))]).run Tryz.prog w=
   .ok (.slice (some ⟨w.heap.size,0,none⟩) (n+1) G) (w.drew.alloc (.cells ((xs.take (i*2)).toArray++Z) 37)):=fun ty=>by
  have h:=Lib.run_append_grow_zeros w 22 3 ty 37 i0 _ .i64 .i64 Tryz.underlying22 Tryz.underlying3 hi0 hz0 (some ⟨g,0,none⟩) i cap (xs.take (i*2)) hold (n+1-i) (by omega) (by omega) (by omega) (by omega) (by rw[hz2];omega) (by rw[hz2,show i+(n+1-i)=n+1 by omega];exact growslice_fits hroom (by omega));rw[show i+(n+1-i)=n+1 by omega,←hG,Array.append_assoc,←hZ]at h;rw[show(n:Int)+1-(i:Int)=((n+1-i:Nat):Int) by omega];exact h
 have hZt:Z.toList.length=(n+1-i)*2+(G-(n+1))*2:=by rw[Array.length_toList];exact hZl
 obtain⟨L0,hL0⟩:∃L0,L0=xs.take (i*2)++Z.toList:=⟨_,rfl⟩
 have aao:(xs.take (i*2)).toArray++Z=L0.toArray:=by rw[hL0];apply Array.ext';simp
 rw[aao]at hrz
 have hl0:L0.length=G*2:=by rw[hL0,List.length_append,List.length_take,hZt,hxl];omega
 obtain⟨L1,hL1⟩:∃L1,L1=splice L0 (i*2) [.int .u64 k,.int .u64 v]:=⟨_,rfl⟩;obtain⟨L2,hL2⟩:∃L2,L2=splice L1 ((i+1)*2) (xs.drop (i*2)):=⟨_,rfl⟩
 have hl1:L1.length=G*2:=by rw[hL1,lJ (by rw[hl0];simp;omega),hl0]
 have hl2:L2.length=G*2:=by rw[hL2,lJ (by rw[List.length_drop,hxl,hl1];omega),hl1]
 have yV:L2.take ((n+1)*2)=xs.take (i*2)++([.int .u64 k,.int .u64 v]++xs.drop (i*2)):=by
  have:=Yj (xs:=xs) (vs:=[Value.int .u64 k,.int .u64 v]) (d:=i*2) (Z:=Z.toList) hxl (by omega) (by rw[hZt];simp;omega);rw[hL2,hL1,hL0,show(i+1)*2=i*2+[Value.int .u64 k,.int .u64 v].length by simp;omega,show(n+1)*2=n*2+[Value.int .u64 k,.int .u64 v].length by simp;omega];exact this
 obtain⟨N,hN⟩:∃N,N=w.heap.size:=⟨_,rfl⟩;rw[←hN]at hrz;have hHg:∀(q:Nat) (r:Array Value),q<N→(w.drew.alloc (.cells r 37)).heap[q]?=w.heap[q]?:=fun q r hq=>Below.heap_alloc w.drew _ q (show q<w.heap.size by omega)
 have hHN:∀r:Array Value,(w.drew.alloc (.cells r 37)).heap[N]?=some (.cells r 37 (0,0)):=fun r=>by rw[hN];exact aj.new w.drew 37 r
 have hcpA:∀(W:World),W.heap=(w.drew.alloc (.cells L0.toArray 37)).heap→∀ty dc,(Builtin.copy_ #[22,22] ty #[.slice (some ⟨N,i*2,none⟩) (n+1-i) dc,.slice (some ⟨vb,0,none⟩) 1 1]).run Tryz.prog W= .ok (goInt (Nat.min 1 (n+1-i))) (W.setRow N L1.toArray):=fun W hW ty dc=>by
  rw[hL1]
  have hcell:∀p:Addr,p.block=vb→W.cell? p=w.cell? p:=fun p hp=>by
   have:W.heap[p.block]?=w.heap[p.block]?:=by rw[hW,hHg _ _ (by rw[hp,hN];exact ab8)]
   unfold World.cell?;rw[this]
  have:=yT W 22 22 ty 37 2 N (i*2) (n+1-i) dc ⟨vb,0,none⟩ 1 1 L0.toArray 37 [.int .u64 k,.int .u64 v] Tryz.underlying22 wN (by rw[hW];exact hHN _) (by simp only[Nat.min_def];split<;>simp<;>omega)
   (Nv (by rw[hcell _ rfl];exact c0) (by rw[hcell _ rfl];exact c1)) (by simp[hl0];omega) EG
  simpa using this
 have hcpB:∀(W:World),(W.heap[N]?=some (.cells L1.toArray 37 (0,0))∧W.heap[g]?=w.heap[g]?)→∀ty dc sc,(Builtin.copy_ #[22,22] ty #[.slice (some ⟨N,(i+1)*2,none⟩) (n-i) dc,.slice (some ⟨g,i*2,none⟩) (n-i) sc]).run Tryz.prog W= .ok (goInt (Nat.min (n-i) (n-i))) (W.setRow N L2.toArray):=fun W hW ty dc sc=>by
  rw[hL2]
  have:=yT W 22 22 ty 37 2 N ((i+1)*2) (n-i) dc ⟨g,i*2,none⟩ (n-i) sc L1.toArray 37 (xs.drop (i*2)) Tryz.underlying22 wN hW.1 (by rw[List.length_drop,hxl];simp only[Nat.min_def];split<;>omega)
   (hxc W hW.2 (i*2) _ (fun j u hj=>by rw[List.getElem?_drop]at hj;exact hj)) (by rw[List.length_drop,hxl];simp[hl1];omega) (fun v hv=>h1x v (List.mem_of_mem_drop hv))
  simpa using this
 have hmid:∀W:World,W.heap=((w.drew.alloc (.cells L0.toArray 37)).setRow N L1.toArray).heap→W.heap[N]?=some (.cells L1.toArray 37 (0,0))∧∀q,q<N→W.heap[q]?=w.heap[q]?:=fun W hW=>by
  rw[hW];exact⟨setRow_heap _ N _ _ _ _ (hHN _),fun q hq=>by rw[setRow_other _ N q _ (by omega),hHg q _ hq]⟩
 have HFin:=qd (fun(W:World) (hW:W.heap=((w.drew.alloc (.cells L0.toArray 37)).setRow N L1.toArray).heap) (h1:W.os=w.os) (h2:W.tape=w.tape) (h3:W.output=w.output)=>show Gi base n (.slice (some ⟨g,0,none⟩) n cap) (xs.take (i*2)++([.int .u64 k,.int .u64 v]++xs.drop (i*2))) w (.returned (.slice (some ⟨N,0,none⟩) (n+1) G)) (W.setRow N L2.toArray)from by
  have hm:=hmid W hW
  have hsW:W.heap.size=w.heap.size+1:=by rw[hW];simp[World.setRow]
  have hr:=Bq (base:=base) (n:=n+1) (cur':=L2.toArray) (xs:=xs.take (i*2)++([.int .u64 k,.int .u64 v]++xs.drop (i*2))) hm.1 (by omega) hGn hG63 (by simpa using hl2) (by simpa using yV);refine⟨_,rfl,hr.1,⟨h1,h2,h3,by simp[World.setRow,hsW],fun q hq hn=> ?_⟩,fun q hq=> .inr ?_⟩
  ·rw[setRow_other W N q _ (by omega)];exact hm.2 q (by omega)
  ·have:q=N:=by simpa[Value.ownBlock]using hq
   omega)
 have ad8:=qd hmid
 have mixed:Tryz.prog.follows Departure.mixedOrders=true:=by kernel_rfl
 have hb1:(0:Int)≤(i:Int)+1:=by omega
 have hz2:¬((i:Int)=(n:Int)):=by omega
 have hz3:(cap:Int)<(n:Int)+1:=by omega
 have hw1:IntKind.i64.wrap ((i:Int)+1)=(i:Int)+1:=by rw[IntKind.wrap_i64];omega
 have hw2:IntKind.i64.wrap ((n:Int)+1)=(n:Int)+1:=by rw[IntKind.wrap_i64];omega
 have hin:i≤n:=by omega
 have htn:((i:Int)+1).toNat=i+1:=by omega
 have hb3:(i:Int)≤(n:Int):=by omega
 have hGi:¬(G=i):=by omega
 have hGim:¬(G=i+1):=by omega
 have hci:¬(cap=i):=by omega
 have hgN:g<N:=by omega
 obtain⟨ys,hys⟩:∃ys,ys=xs.take (i*2)++([Value.int .u64 k,.int .u64 v]++xs.drop (i*2)):=⟨_,rfl⟩;rw[←hys]at HFin⊢;clear hys hL0 hL1 hL2 yV hh htk hl0 hl1 hl2 c0 c1 hB ho hmax hsz hZ hZl hold hxc hHg hHN hG hmid aao;subst hN;have hT:=fun(ty:TypeId)=>hcpA ((w.alloc (.cells L0.toArray 37)).drew) rfl ty (G-i);have tO:=ad8.out ((((w.alloc (.cells L0.toArray 37)).drew).setRow w.heap.size L1.toArray).drew) rfl;have kD:=hcpB ((((w.alloc (.cells L0.toArray 37)).drew).setRow w.heap.size L1.toArray).drew) ⟨tO.1,tO.2 g hgN⟩;clear tO;go_in
 go_upto_region 10 with(at_builtin;refine Lib.wpList_append_run _ rfl _ _ _ _ rfl _ _ rfl rfl _ _ (hrz _) ?_)
 go_wp2_with (at_builtin;refine wpList_copy_runI _ rfl _ _ 22 22 rfl _ _ rfl rfl (hT _) ?_);go_region_law_o (refine step_copy_runI rfl _ _ 22 22 rfl _ _ (by simp[Act.eval,Act.put]) (by simp[Act.eval,Act.put]) (kD _ _ _) ?_);go_wp2;go_ret;exact HFin.out _ rfl rfl rfl rfl
end
section
variable {base fb most : Nat} {w : World} {l : PL} {F : List Nat}
theorem Vg {A:Option Addr}{c:Nat}(ho:w.ownsRow base 37 2 (.slice A l.length c) l.length (l.flatMap aM))(ha:eY l)(hn:l.length≤100000)(key:Nat):
  Calls Tryz.prog 60 #[.slice A l.length c,.int .u64 (key:Int),.func (.func 61) #[] #[]] w fun y w'=>y= .returned (.tuple #[.int .i64 (gD l key:Int),.bool (om l key)])∧Below w.heap.size w w':=by
 have hlow:=Js l key;have HO:=qd ho;have HA:=qd ha;have HB:=qd (Below.refl w.heap.size w);obtain⟨lo,hlo⟩:∃lo,lo=gD l key:=⟨_,rfl⟩;rw[←hlo]at hlow;have H9:=qd hlo;obtain⟨is,his⟩:∃is,is=om l key:=⟨_,rfl⟩;have Ny:=qd his;rw[←hlo,←his];clear ho ha hlo his;go_in;go_wp2;go_loopw [9,10,11] (fun v9 v10 _ wr=>∃i j:Nat,i≤lo∧lo≤j∧j≤l.length∧v9= .int .i64 (i:Int)∧v10= .int .i64 (j:Int)∧Hid (Below w.heap.size w wr)) (fun v9 v10 _ _=>((intOf v10)-(intOf v9)).toNat)
 case atStart=>exact⟨0,l.length,by omega,hlow,by omega,rfl,rfl,HB⟩
 case round=>
  clear HB;obtain⟨i,j,hi,hj,hjl,rfl,rfl,HB⟩:=hrel;by_cases hij:i<j
  ·have hij':(i:Int)<(j:Int):=by omega
   obtain⟨m,hm⟩:∃m,m=(i+j)/2:=⟨_,rfl⟩
   have hw1:IntKind.i64.wrap ((i:Int)+(j:Int))=(i:Int)+(j:Int):=by rw[IntKind.wrap_i64];omega
   have hw2:IntKind.u64.wrap ((i:Int)+(j:Int))=(i:Int)+(j:Int):=by rw[IntKind.wrap_u64];omega
   have hw3:((i:Int)+(j:Int))/2=(m:Int):=by omega
   have hw4:IntKind.i64.wrap (m:Int)=(m:Int):=by rw[IntKind.wrap_i64];omega
   have hw5:IntKind.i64.wrap ((m:Int)+1)=((m+1:Nat):Int):=by rw[IntKind.wrap_i64];omega
   have hml:m<l.length:=by omega
   have hm':(m:Int)<(l.length:Int):=by omega
   have hm0:(0:Int)≤(m:Int):=by omega
   obtain⟨p,hp⟩:∃p,l[m]?=some p:=⟨_,List.getElem?_eq_getElem hml⟩;obtain⟨g,off,hA2,hgl,hc⟩:=(Reads.eO (own_below HO.out HB.out (Nat.le_refl _))).2 (by omega);have r0:wr.cell? ⟨g,off+m*2,none⟩=some (.int .u64 (p.1:Int)):=hc (m*2+0) _ (dS hp (by omega));have r1:wr.cell? ⟨g,off+m*2+1,none⟩=some (.int .u64 (p.2:Int)):=hc (m*2+1) _ (dS hp (by omega));have HK:=qd (fun(W:World)=>Nu p key W);have Rb:=qd (show m<lo↔p.1<key from by rw[H9.out];exact xB HA.out hp);have HM:=qd (show i≤m∧m<j by omega);clear hc hp hm;subst hA2;go_wp2_with fail;refine(HK.out _).mono ?_;rintro y w2 ⟨rfl,hb2⟩;have HB2:=qd (HB.out.trans (hb2.mono HB.out.size));clear hb2;by_cases hlt:p.1<key
   ·have hcv:lK p.1 key= -1:=by unfold lK;rw[if_pos hlt]
    rw[hcv];have HI:=qd (show m+1≤lo from Rb.out.2 hlt);clear hcv;go_wp2;go_roundw
    all_goals first|exact⟨m+1,j,HI.out,hj,hjl,rfl,rfl,HB2⟩|(simp[intOf];have:=HM.out;omega)
   ·have hcv:(lK p.1 key<0)=False:=by unfold lK;rw[if_neg hlt];split<;>simp
    have hcd:decide (lK p.1 key<0)=false:=decide_eq_false (fun h=>by rw[hcv]at h;exact h);have HI:=qd (show lo≤m from by have:=Rb.out;omega);go_wp2;go_roundw
    all_goals first|exact⟨i,m,hi,HI.out,by omega,rfl,rfl,HB2⟩|(simp[intOf];have:=HM.out;omega)
  ·obtain rfl:i=lo:=by omega
   obtain rfl:j=i:=by omega
   have hni:¬(j:Int)<(j:Int):=by omega
   by_cases hjn:j<l.length
   ·have hj':(j:Int)<(l.length:Int):=by omega
    have hj0:(0:Int)≤(j:Int):=by omega
    obtain⟨p,hp⟩:∃p,l[j]?=some p:=⟨_,List.getElem?_eq_getElem hjn⟩;obtain⟨g,off,hA2,hgl,hc⟩:=(Reads.eO (own_below HO.out HB.out (Nat.le_refl _))).2 (by omega);have r0:wr.cell? ⟨g,off+j*2,none⟩=some (.int .u64 (p.1:Int)):=hc (j*2+0) _ (dS hp (by omega));have r1:wr.cell? ⟨g,off+j*2+1,none⟩=some (.int .u64 (p.2:Int)):=hc (j*2+1) _ (dS hp (by omega));have HK:=qd (fun(W:World)=>Nu p key W)
    have HIe:=qd (show is=(lK p.1 key==0)from by
     rw[Ny.out];unfold om;rw[←H9.out,hp,Option.any_some];unfold lK;rcases Nat.lt_trichotomy p.1 key with h|h|h
     ·rw[if_pos h];simp;omega
     ·rw[if_neg (by omega),if_neg (by omega)];simp[h]
     ·rw[if_neg (by omega),if_pos h];simp;omega)
    clear hc hp;subst hA2;go_wp2_with fail;refine(HK.out _).mono ?_;rintro y w2 ⟨rfl,hb2⟩;have HB2:=qd (HB.out.trans (hb2.mono HB.out.size));clear hb2;obtain⟨cv,hcv⟩:∃cv,cv=lK p.1 key:=⟨_,rfl⟩;have HC:=qd hcv;rw[←hcv];clear hcv;go_wp2;refine bodyPost_ret (v:= .tuple #[.int .i64 (j:Int),.bool (cv==0)]) (by simp[results,Tryz.results60,go_sem]) rfl ⟨by rw[HIe.out,HC.out],HB2.out⟩
   ·have hj':¬(j:Int)<(l.length:Int):=by omega
    have HIe:=qd (show is=false from by
     rw[Ny.out];unfold om;rw[←H9.out,List.getElem?_eq_none (by omega)]
     rfl)
    go_wp2;refine bodyPost_ret (v:= .tuple #[.int .i64 (j:Int),.bool false]) (by simp[results,Tryz.results60,go_sem]) rfl ⟨by rw[HIe.out],HB.out⟩
theorem Jw (h:kM base w fb most F l)(hn:l.length≤100000)(key:Nat):
  Calls Tryz.prog 36 #[.pointer (some ⟨fb,0,none⟩),.int .u64 (key:Int)] w fun y w'=>y= .returned (.tuple #[.int .i64 (gD l key:Int),.bool (om l key)])∧Below w.heap.size w w':=by
 obtain⟨v,hB,ho,rfl,hb,ha⟩:=h;obtain⟨A,c,rfl⟩:=aU ho;have c1:=hB.cell 1;simp only[gl]at c1;have HS:=qd (Vg ho ha hn key);clear hB ho ha;go_in;go_wp2_with fail;refine HS.out.mono ?_;rintro y w1 ⟨rfl,hb1⟩;have HB1:=qd hb1;clear hb1;go_wp2;refine bodyPost_ret (v:= .tuple #[.int .i64 (gD l key:Int),.bool (om l key)]) (by simp[results,Tryz.results36,go_sem]) rfl ⟨rfl,HB1.out⟩
theorem Vh (h:kM base w fb most F l)(hn:l.length≤100000)(key:Nat):
  Calls Tryz.prog 19 #[.pointer (some ⟨fb,0,none⟩),.int .u64 (key:Int)] w fun y w'=>y= .returned (.tuple #[.int .u64 (((aS l key).getD 0:Nat):Int),.bool (aS l key).isSome])∧Below w.heap.size w w':=by
 have HF:=qd (Jw h hn key);have ha:=h.oo;obtain⟨v,hB,ho,rfl,hb,_⟩:=h;obtain⟨A,c,rfl⟩:=aU ho;have HO:=qd ho;have HB:=qd hB;clear hB ho
 cases hi:om l key with
 |false=>
  have hg:=uZ ha hi;rw[hg];rw[hi]at HF;clear hi hg;go_in;go_wp2_with fail;refine HF.out.mono ?_;rintro y w1 ⟨rfl,hb1⟩;have HB1:=qd hb1;clear hb1;go_wp2;refine bodyPost_ret (v:= .tuple #[.int .u64 0,.bool false]) (by simp[results,Tryz.results19,go_sem]) rfl ⟨rfl,HB1.out⟩
 |true=>
  obtain⟨u,hu,hg⟩:=(uz ha).1 hi;rw[hg];rw[hi]at HF;obtain⟨lo,hlo⟩:∃lo,lo=gD l key:=⟨_,rfl⟩;rw[←hlo]at HF hu;clear hi hg hlo;have hll:lo<l.length:=(List.getElem?_eq_some_iff.1 hu).1
  have hl':(lo:Int)<(l.length:Int):=by omega
  have hl0:(0:Int)≤(lo:Int):=by omega
  go_in;go_wp2_with fail;refine HF.out.mono ?_;rintro y w1 ⟨rfl,hb1⟩;obtain⟨g,off,hA2,hgl,hc⟩:=(Reads.eO (own_below HO.out hb1 (Nat.le_refl _))).2 (by omega);have r1:w1.cell? ⟨g,off+lo*2+1,none⟩=some (.int .u64 (u:Int)):=hc (lo*2+1) _ (dS hu (by omega));have c1:=(HB.out.below hb1 HB.out.lt).cell 1;simp only[gl]at c1;subst hA2;have HB1:=qd hb1;clear hb1 hc hu;go_wp2;refine bodyPost_ret (v:= .tuple #[.int .u64 (u:Int),.bool true]) (by simp[results,Tryz.results19,go_sem]) rfl ⟨rfl,HB1.out⟩
theorem Ia (most:Nat)(w:World):
  Calls Tryz.prog 16 #[.int .i64 (most:Int)] w fun y w'=>y= .returned (.pointer (some ⟨w.heap.size,0,none⟩))∧kM w.heap.size w' w.heap.size most [w.heap.size] []∧Below w.heap.size w w':=by
 go_in;go_wp2;go_ret;exact⟨rfl,⟨_,aj.new w _ _,World.ownsRow_nil _ _ _ _,rfl,Nat.le_refl _,List.Pairwise.nil⟩,(Below.refl w.heap.size w).alloc (Nat.le_refl _) _⟩
end
section
variable {f i : Nat} {listed : Array Bool} {a : Act} {w : World} {oi oj : Oper} {v : Value}
section
variable {P : Program} {ops : Array Oper} {Q : Exit → Act → World → Prop} {md : Region.Mode} {S : World → Prop} {n : List Nat}
def Early (n:List Nat)(listed:Array Bool):Prop:=∀k,k∈n→listed.getD k true=false
theorem rP (hi:i∉n):Early n (listed.setIfInBounds i true)↔Early n listed:=by
 have H:∀k,k∈n→((listed.setIfInBounds i true).getD k true=false↔listed.getD k true=false):=fun k hk=>by
  have hne:i≠k:=fun h=>hi (h▸hk);rw[getD_set_ne true hne]
 exact⟨fun h k hk=>(H k hk).1 (h k hk),fun h k hk=>(H k hk).2 (h k hk)⟩
def bH (P:Program)(md:Region.Mode)(ops:Array Oper)(Q:Exit→Act→World→Prop)(S:World→Prop)(n:List Nat):Nat→Array Bool→Act→World→Prop
 |0,listed,a,w=>Region.ready md ops listed=[]∧Q .normal a w
 |f+1,listed,a,w=>
  (Region.ready md ops listed=[]→Q .normal a w)∧
  ∀i∈Region.ready md ops listed,wpOp P ops Q i (fun a' w'=>(Early n (listed.setIfInBounds i true)→S w')∧bH P md ops Q S n f (listed.setIfInBounds i true) a' w') a w
theorem Bu:∀(f:Nat) (listed:Array Bool) (a:Act) (w:World),bH P md ops Q S n f listed a w→wpAny P md ops Q f listed a w
 |0,_,_,_,h=>h
 |f+1,_,_,_,h=>⟨h.1,fun i hi=>wpOp_mono (fun a' w' h'=>Bu f _ a' w' h'.2) (h.2 i hi)⟩
theorem Yk {id:Nat}(S:World→Prop)(n:List Nat)(hm:P.follows .mixedOrders=true)(h:bH P .any ops Q S n ops.size (Array.replicate ops.size false) a {w with drawn:=w.drawn+1}):(Code.region id ops true).wp P Q a w:=
 wp_region_any hm (Bu _ _ _ _ h)
def After (md:Region.Mode)(oj:Oper)(i:Nat):Prop:=∃e∈oj.after,Region.binds md e=true∧e.on=i
def Jy (md:Region.Mode)(ops:Array Oper)(n:List Nat)(i:Nat)(listed:Array Bool):Prop:=
 ∀j oj,ops[j]?=some oj→j∈n→listed.getD j true=false→After md oj i∨∃k ok,ops[k]?=some ok∧listed.getD k true=false∧After md oj k∧After md ok i
def Ib (md:Region.Mode)(oj:Oper)(i:Nat):Bool:=oj.after.any fun e=>Region.binds md e && e.on==i
theorem Gl (h:Ib md oj i=true):After md oj i:=by
 obtain⟨e,he,hb⟩:=Array.any_eq_true'.1 h;simp only[Bool.and_eq_true,beq_iff_eq]at hb;exact⟨e,he,hb.1,hb.2⟩
def xM (md:Region.Mode)(ops:Array Oper)(n:List Nat)(i:Nat)(listed:Array Bool):Bool:=
 (n.all fun k=> !listed.getD k true) && (List.range ops.size).all fun j=> !n.contains j||(match ops[j]? with
  |some oj=>Ib md oj i||(List.range ops.size).any fun k=> !listed.getD k true && Ib md oj k && (match ops[k]? with
   |some ok=>Ib md ok i
   |none=>false)
  |none=>true)
theorem Ic (h:xM md ops n i listed=true):Early n listed∧Jy md ops n i listed:=by
 unfold xM at h;rw[Bool.and_eq_true]at h;refine⟨fun k hk=>by simpa using List.all_eq_true.1 h.1 k hk,fun j oj hj hn hl=> ?_⟩;have hlt:j<ops.size:=(Array.getElem?_eq_some_iff.1 hj).1;have h1:=List.all_eq_true.1 h.2 j (List.mem_range.2 hlt);rw[hj,show n.contains j=true by simpa using hn]at h1;simp only[Bool.not_true,Bool.false_or,Bool.or_eq_true]at h1;rcases h1 with h1|h1
 ·exact .inl (Gl h1)
 ·obtain⟨k,_,h2⟩:=List.any_eq_true.1 h1;simp only[Bool.and_eq_true,Bool.not_eq_true']at h2;obtain⟨⟨h3,h4⟩,h5⟩:=h2
  cases hk:ops[k]? with
  |none=>rw[hk]at h5;cases h5
  |some ok=>rw[hk]at h5;exact .inr ⟨k,ok,hk,h3,Gl h4,Gl h5⟩
theorem Yl {k:Nat}(h1:listed.getD k false=true)(h0:listed.getD k true=false):False:=by
 rcases Nat.lt_or_ge k listed.size with h'|h'
 ·simp[h']at h0 h1;rw[h0]at h1;cases h1
 ·simp[Array.getElem?_eq_none h']at h1
theorem Km {j:Nat}(hr:i∈Region.ready md ops listed)(hall:∀e∈oj.after,Region.binds md e=true→listed.getD e.on false=true):∀e∈oj.after,Region.binds md e=true→e.on≠i:=fun e he hb heq=>by
 have _:=j;have h1:=hall e he hb;have h0:=(mem_ready.1 hr).1;rw[heq]at h1;rcases Nat.lt_or_ge i listed.size with h'|h'
 ·simp[h']at h0 h1;rw[h0]at h1;cases h1
 ·simp[Array.getElem?_eq_none h']at h1
theorem Qn (hi:ops[i]?=some oi)(hin:i∉n)(hsel:∀(j:Nat) (o:Oper) cs b,ops[j]?=some o→o.op≠ .select cs b)(hQ:∀c a w,Q (.panic c) (a.put oi.dst v) w→Q (.panic c) a w):
  ∀(f:Nat) (listed:Array Bool) (a:Act) (w:World),
   (∀j oj,ops[j]?=some oj→j≠i→listed.getD j true=false→(∀e∈oj.after,Region.binds md e=true→e.on≠i)→oi.apart ops oj=true)→
   Early n listed→Jy md ops n i listed→i∈Region.ready md ops listed→YieldsIf P ops S oi v a→S w→
   bH P md ops Q S n f (listed.setIfInBounds i true) (a.put oi.dst v) w→bH P md ops Q S n (f+1) listed a w:=by
 intro f
 induction f with
 |zero=>
  intro listed a w _ _ _ hr hy hS H;refine⟨(fun h=>by rw[h]at hr;cases hr),fun j hj=> ?_⟩;by_cases hji:j=i
  ·subst hji;exact hy.wpOp hi hS ⟨fun _=>hS,H⟩
  ·have:=ready_mono hj hji;rw[H.1]at this;cases this
 |succ f ih=>
  intro listed a w hfree hE hA hr hy hS H;refine⟨(fun h=>by rw[h]at hr;cases hr),fun j hj=> ?_⟩;by_cases hji:j=i
  ·subst hji;exact hy.wpOp hi hS ⟨fun _=>hS,H⟩
  ·have h1:=H.2 j (ready_mono hj hji);obtain⟨hjun,oj,hoj,hall⟩:=mem_ready.1 hj;have hnot:=Km (j:=j) hr hall
   have hjn:j∉n:=fun h=>by
    rcases hA j oj hoj h hjun with⟨e,he,hb,heq⟩|⟨k,ok,_,hkl,⟨e,he,hb,heq⟩,_⟩
    ·exact absurd heq (hnot e he hb)
    ·exact Yl (heq▸hall e he hb) hkl
   have hEj:Early n (listed.setIfInBounds j true):=(rP hjn).2 hE;have ab9:Early n ((listed.setIfInBounds i true).setIfInBounds j true):=(rP hjn).2 ((rP hin).2 hE);have h2:=wpOp_putIf hoj (hfree j oj hoj hji hjun hnot) (fun cs b=>hsel i oi cs b hi) (fun cs b=>hsel j oj cs b hoj) hQ hy h1
   have hfree':∀k ok,ops[k]?=some ok→k≠i→(listed.setIfInBounds j true).getD k true=false→
     (∀e∈ok.after,Region.binds md e=true→e.on≠i)→oi.apart ops ok=true:=fun k ok hk hki hun hno=>by
    refine hfree k ok hk hki ?_ hno;by_cases hjk:j=k
    ·subst hjk;exact hjun
    ·rw[getD_set_ne true hjk]at hun;exact hun
   have hA':Jy md ops n i (listed.setIfInBounds j true):=fun k ok hk hkn hun=>by
    have hun':listed.getD k true=false:=by
     by_cases hjk:j=k
     ·subst hjk;exact hjun
     ·rw[getD_set_ne true hjk]at hun;exact hun
    rcases hA k ok hk hkn hun' with h|⟨k2,Vi,h3,h4,h5,h6⟩
    ·exact .inl h
    ·refine .inr ⟨k2,Vi,h3, ?_,h5,h6⟩
     have hne:j≠k2:=by
      rintro rfl;obtain rfl:Vi=oj:=Option.some.inj (h3.symm.trans hoj);obtain⟨e,he,hb,heq⟩:=h6;exact hnot e he hb heq
     rw[getD_set_ne true hne];exact h4
   refine wpOp_mono (fun a' w' h3=>⟨fun _=>h3.2.1 ab9,ih (listed.setIfInBounds j true) a' w' hfree' hEj hA' (ready_mono hr (Ne.symm hji)) h3.1 (h3.2.1 ab9) ?_⟩) h2;rw[Array.setIfInBounds_comm _ _ hji];exact h3.2.2
theorem Fh (hi:ops[i]?=some oi)(hin:i∉n)(hsel:∀(j:Nat) (o:Oper) cs b,ops[j]?=some o→o.op≠ .select cs b)(hQ:∀c a w,Q (.panic c) (a.put oi.dst v) w→Q (.panic c) a w):
  ∀(f:Nat) (listed:Array Bool) (a:Act) (w:World),
   (∀j oj,ops[j]?=some oj→j≠i→listed.getD j true=false→(∀e∈oj.after,Region.binds md e=true→e.on≠i)→oi.apart ops oj=true)→
   i∈Region.ready md ops listed→YieldsIf P ops (fun _=>True) oi v a→(Early n listed→S w)→
   bH P md ops Q S n f (listed.setIfInBounds i true) (a.put oi.dst v) w→bH P md ops Q S n (f+1) listed a w:=by
 intro f
 induction f with
 |zero=>
  intro listed a w _ hr hy hS H;refine⟨(fun h=>by rw[h]at hr;cases hr),fun j hj=> ?_⟩;by_cases hji:j=i
  ·subst hji;exact hy.wpOp hi trivial ⟨fun h=>hS ((rP hin).1 h),H⟩
  ·have:=ready_mono hj hji;rw[H.1]at this;cases this
 |succ f ih=>
  intro listed a w hfree hr hy hS H;refine⟨(fun h=>by rw[h]at hr;cases hr),fun j hj=> ?_⟩;by_cases hji:j=i
  ·subst hji;exact hy.wpOp hi trivial ⟨fun h=>hS ((rP hin).1 h),H⟩
  ·have h1:=H.2 j (ready_mono hj hji);obtain⟨hjun,oj,hoj,hall⟩:=mem_ready.1 hj;have hnot:=Km (j:=j) hr hall;have h2:=wpOp_putIf hoj (hfree j oj hoj hji hjun hnot) (fun cs b=>hsel i oi cs b hi) (fun cs b=>hsel j oj cs b hoj) hQ hy h1
   have hfree':∀k ok,ops[k]?=some ok→k≠i→(listed.setIfInBounds j true).getD k true=false→
     (∀e∈ok.after,Region.binds md e=true→e.on≠i)→oi.apart ops ok=true:=fun k ok hk hki hun hno=>by
    refine hfree k ok hk hki ?_ hno;by_cases hjk:j=k
    ·subst hjk;exact hjun
    ·rw[getD_set_ne true hjk]at hun;exact hun
   have hEq:Early n (listed.setIfInBounds j true)→Early n ((listed.setIfInBounds i true).setIfInBounds j true):=fun h=>by
    rw[Array.setIfInBounds_comm _ _ (Ne.symm hji)];exact(rP hin).2 h
   refine wpOp_mono (fun a' w' h3=>⟨fun h=>h3.2.1 (hEq h),ih (listed.setIfInBounds j true) a' w' hfree' (ready_mono hr (Ne.symm hji)) h3.1 (fun h=>h3.2.1 (hEq h)) ?_⟩) h2;rw[Array.setIfInBounds_comm _ _ hji];exact h3.2.2
theorem aap (hi:ops[i]?=some oi)(hs:Region.noSelect ops=true)(hf:Region.free md ops listed i=true)(hr:(Region.ready md ops listed).contains i=true)(hin:n.contains i=false)(hA:xM md ops n i listed=true)(hQ:∀c a w,Q (.panic c) (a.put oi.dst v) w→Q (.panic c) a w)(hy:YieldsIf P ops S oi v a)(hS:S w)(h:bH P md ops Q S n f (listed.setIfInBounds i true) (a.put oi.dst v) w):bH P md ops Q S n (f+1) listed a w:=
 Qn hi (by simpa using hin) (Region.noSelect_spec hs) hQ f listed a w (Region.free_spec hi hf) (Ic hA).1 (Ic hA).2 (by simpa using hr) hy hS h
theorem SY (hi:ops[i]?=some oi)(hs:Region.noSelect ops=true)(hf:Region.free md ops listed i=true)(hr:(Region.ready md ops listed).contains i=true)(hin:n.contains i=false)(hQ:∀c a w,Q (.panic c) (a.put oi.dst v) w→Q (.panic c) a w)(hy:YieldsIf P ops (fun _=>True) oi v a)(hS:S w)(h:bH P md ops Q S n f (listed.setIfInBounds i true) (a.put oi.dst v) w):bH P md ops Q S n (f+1) listed a w:=
 Fh hi (by simpa using hin) (Region.noSelect_spec hs) hQ f listed a w (Region.free_spec hi hf) (by simpa using hr) hy (fun _=>hS) h
theorem adM (hi:ops[i]?=some oi)(hs:Region.noSelect ops=true)(hf:Region.free md ops listed i=true)(hr:(Region.ready md ops listed).contains i=true)(hin:n.contains i=false)(hQ:∀c a w,Q (.panic c) (a.put oi.dst v) w→Q (.panic c) a w)(hy:YieldsIf P ops (fun _=>True) oi v a)(hl:(n.any fun k=>listed.getD k true)=true)(h:bH P md ops Q S n f (listed.setIfInBounds i true) (a.put oi.dst v) w):bH P md ops Q S n (f+1) listed a w:=
 Fh hi (by simpa using hin) (Region.noSelect_spec hs) hQ f listed a w (Region.free_spec hi hf) (by simpa using hr) hy (fun hE=>by
  obtain⟨k,hk,h1⟩:=List.any_eq_true.1 hl
  rw[hE k hk]at h1;cases h1) h
theorem p9 {o:Oper}(hi:ops[i]?=some o)(hr:Region.ready md ops listed=[i])(h:∀K:Act→World→Prop,RowKit.Hid (∀a' w',(i∉n→S w')→bH P md ops Q S n f (listed.setIfInBounds i true) a' w'→K a' w')→if Region.wanted o (yielded ops a.tmps)=true then o.wp P a w K Q else K (a.put o.dst undef) w):bH P md ops Q S n (f+1) listed a w:=by
 refine⟨(fun h0=>by rw[hr]at h0;cases h0),fun j hj=> ?_⟩;rw[hr]at hj
 obtain rfl:j=i:=by simpa using hj
 have hun:listed.getD j true=false:=(mem_ready.1 (by rw[hr];simp:j∈Region.ready md ops listed)).1;unfold wpOp;simp only[hi]
 have:=h (fun a' w'=>(Early n (listed.setIfInBounds j true)→S w')∧bH P md ops Q S n f (listed.setIfInBounds j true) a' w') (qd fun a' w' h1 h2=>⟨fun hE=>by
  by_cases hjn:j∈n
  ·have h3:=hE j hjn
   have hlt:j<listed.size:=by
    rcases Nat.lt_or_ge j listed.size with h'|h'
    ·exact h'
    ·simp[Array.getElem?_eq_none h']at hun
   simp[hlt]at h3
  ·exact h1 hjn,h2⟩)
 split
 ·next hw=>rw[if_pos hw]at this;exact .inl this
 ·next hw=>rw[if_neg hw]at this;exact this
theorem aY (hr:Region.ready md ops listed=[])(h:Q .normal a w):∀f,bH P md ops Q S n f listed a w
 |0=>⟨hr,h⟩
 |_+1=>⟨fun _=>h,by rw[hr];simp⟩
end
end
end Go.Proofs.YtbfpfgfgfjhpfaaGreatDoor
