/- The library's Insert at pairs, one pair, by its contract. No statement of the claim. -/
import Derived.Test.YthfgacnlojmmfaaGreatDoorPlA
import Derived.Test.YthfgacnlojmmfaaGreatDoorLaneP
import Derived.Lib.Overlaps
import Derived.Lib.AppendZeros
import Derived.Lib.AppendZerosOnto
import Derived.Lib.SliceRun
import Derived.Laws.NewBlocks
import Derived.Laws.Externs
import Derived.Deep.LoopGhost
import Derived.Test.YthfgacnlojmmfaaGreatDoorCoAB
namespace Go.Proofs.YthfgacnlojmmfaaGreatDoor
set_option maxRecDepth 100000
set_option maxHeartbeats 4000000
open Go.RowKit Go.Shelf AmC AmL
section
variable {k v : Int} {base c g i n vb : Nat} {w : World} {xs : List Value} {tv : TypeId}
theorem size_PlPair (w:World):(Go.sizeOf 35).run Tryz.prog w= .ok 2 w:=by kernel_rfl
theorem sz2_PlPair:(Tryz.prog.info? 35).map (·.size)=some 2:=by kernel_rfl
theorem two_one:∀x∈[Value.int .u64 k,Value.int .u64 v],x.oneCell'=true:=by
 intro x hx;simp only[List.mem_cons,List.not_mem_nil,or_false]at hx
 rcases hx with rfl|rfl<;>rfl
theorem two_at (c0:w.cell? ⟨vb,0,none⟩=some (.int .u64 k))(c1:w.cell? ⟨vb,1,none⟩=some (.int .u64 v)):∀(j:Nat) (u:Value),[Value.int .u64 k,Value.int .u64 v][j]?=some u→w.cell? ((⟨vb,0,none⟩:Addr).add j)=some u:=by
 intro j u hj
 have hadd:(⟨vb,0,none⟩:Addr).add j=⟨vb,j,none⟩:=by unfold Addr.add;split<;>simp_all
 rw[hadd]
 match j,hj with
 |0,hj=>obtain rfl:=Option.some.inj hj;exact c0
 |1,hj=>obtain rfl:=Option.some.inj hj;exact c1
 |j+2,hj=>simp at hj
def InsP (base n:Nat)(v0:Value)(xs:List Value)(w:World)(e:Ending)(w':World):Prop:=
 ∃v',e= .returned v'∧w'.ownsRow base 35 2 v' (n+1) xs∧Mod v0.ownBlock.toList w w'∧∀q∈v'.ownBlock.toList,q∈v0.ownBlock.toList∨w.heap.size≤q
theorem insert_end {A:Option Addr}(ho:w.ownsRow base 35 2 (.slice A n c) n xs)(hB:Blk w vb tv #[.int .u64 k,.int .u64 v])(hn:n≤100000)(hbw:base≤w.heap.size):
  Calls Tryz.prog 22 #[.slice A n c,.int .i64 (n:Int),.slice (some ⟨vb,0,none⟩) 1 1] w (InsP base n (.slice A n c) (xs++[.int .u64 k,.int .u64 v]) w):=by
 obtain⟨c0,c1⟩:=hB.c2;have HA:=qd (two_at c0 c1);have HO:=qd ho;obtain⟨i0,hi0,hz0,hz1,hz2⟩:=info_parts info_PlPair;have HI:=qd (And.intro hi0 (And.intro hz0 (And.intro hz1 hz2)));have hcap:=own_caps ho;clear ho hB hi0 hz0 hz1 hz2 c0 c1
 have hfin:∀v' w1,w1.ownsRow base 35 2 v' (n+1) (xs++[.int .u64 k,.int .u64 v])→w.grownBy w1 (Value.slice A n c).ownBlock→(v'.ownBlock=(Value.slice A n c).ownBlock∨v'.ownBlock=some w.heap.size)→InsP base n (.slice A n c) (xs++[.int .u64 k,.int .u64 v]) w (.returned v') w1:=by
  intro v' w1 hown hg hat;refine⟨v',rfl,hown,⟨hg.os,hg.tape,hg.output,hg.size,fun q hq hne=>hg.block q hq (fun e=>hne (by simp[e]))⟩,fun q hq=> ?_⟩;rcases hat with hat|hat
  ·exact .inl (by rw[←hat];exact hq)
  ·refine .inr ?_;rw[hat]at hq
   have:q=w.heap.size:=by simpa using hq
   omega
 have HFin:=qd hfin;clear hfin;rcases hcap with⟨rfl,rfl,rfl⟩|⟨g,rfl,_⟩
 ·go_in;go_wp2_with (at_builtin;refine wpList_append_own_at _ rfl _ _ 24 rfl base 35 i0 _ 2 16 Tryz.underlying24 HI.out.1 HI.out.2.1 HI.out.2.2.1 HI.out.2.2.2 rfl (by omega) _ _ _ rfl HO.out ⟨vb,0,none⟩ 1 1 [.int .u64 k,.int .u64 v] rfl rfl HA.out two_one (by simp[maxLen]) (by omega) hbw ?_;intro v' w1 hown hg _ hat;have HP:=qd (HFin.out v' w1 hown hg hat);clear hown hg hat);go_ret;exact HP.out
 ·go_in;go_wp2_with (at_builtin;refine wpList_append_own_at _ rfl _ _ 24 rfl base 35 i0 _ 2 16 Tryz.underlying24 HI.out.1 HI.out.2.1 HI.out.2.2.1 HI.out.2.2.2 rfl (by omega) _ _ _ rfl HO.out ⟨vb,0,none⟩ 1 1 [.int .u64 k,.int .u64 v] rfl rfl HA.out two_one (by simp[maxLen];omega) (by omega) hbw ?_;intro v' w1 hown hg _ hat;have HP:=qd (HFin.out v' w1 hown hg hat);clear hown hg hat)
  all_goals go_ret
  all_goals exact HP.out
theorem insert_shift (ho:w.ownsRow base 35 2 (.slice (some ⟨g,0,none⟩) n c) n xs)(hB:Blk w vb tv #[.int .u64 k,.int .u64 v])(hne:vb≠g)(hi:i<n)(hroom:n+1≤c)(h1x:∀v∈xs,v.oneCell'=true):
  Calls Tryz.prog 22 #[.slice (some ⟨g,0,none⟩) n c,.int .i64 (i:Int),.slice (some ⟨vb,0,none⟩) 1 1] w (InsP base n (.slice (some ⟨g,0,none⟩) n c) (xs.take (i*2)++([.int .u64 k,.int .u64 v]++xs.drop (i*2))) w):=by
 obtain⟨c0,c1⟩:=hB.c2;have hvlt:=hB.lt;have hBh:w.heap[vb]?=some (.cells #[.int .u64 k,.int .u64 v] tv (0,0)):=hB;have hxl:=ho.1
 obtain⟨cap,cur,hbg,hh,hcc,hmax,hsz,htk,rfl⟩:∃cap cur,base≤g∧w.heap[g]?=some (.cells cur 35 (0,0))∧n≤cap∧cap≤maxLen∧cur.size=cap*2∧cur.toList.take (n*2)=xs∧cap=c:=by
  rcases ho.2 with⟨h,_⟩|⟨g',cap,cur,hv,h1,h2,h3,h4,h5,h6⟩
  ·cases h
  ·injection hv with hv _ hc
   injection hv with hv
   injection hv with hv _ _
   subst hv;exact⟨cap,cur,h1,h2,h3,h4,h5,h6,hc.symm⟩
 obtain⟨L1,hL1⟩:∃L1,L1=splice cur.toList ((i+1)*2) (xs.drop (i*2)):=⟨_,rfl⟩;obtain⟨L2,hL2⟩:∃L2,L2=splice L1 (i*2) [.int .u64 k,.int .u64 v]:=⟨_,rfl⟩
 have hl1:L1.length=cap*2:=by rw[hL1,splice_len (by rw[List.length_drop,hxl,Array.length_toList];omega),Array.length_toList,hsz]
 have hl2:L2.length=cap*2:=by rw[hL2,splice_len (by rw[hl1];simp;omega),hl1]
 have hfin2:L2.take ((n+1)*2)=xs.take (i*2)++([.int .u64 k,.int .u64 v]++xs.drop (i*2)):=by
  have:=ins_shift (L:=cur.toList) (vs:=[Value.int .u64 k,.int .u64 v]) (d:=i*2) htk (by omega) (by rw[Array.length_toList];simp;omega);rw[hL2,hL1,show(i+1)*2=i*2+[Value.int .u64 k,.int .u64 v].length by simp;omega,show(n+1)*2=n*2+[Value.int .u64 k,.int .u64 v].length by simp;omega];exact this
 have hgl:g<w.heap.size:=(Array.getElem?_eq_some_iff.1 hh).1;obtain⟨W1,hW1⟩:∃W1,W1=w.drew.setRow g L1.toArray:=⟨_,rfl⟩
 have hW1g:W1.heap[g]?=some (.cells L1.toArray 35 (0,0)):=by rw[hW1];exact setRow_heap w.drew g cur _ _ _ hh
 have hcp1:∀ty dc sc,(Builtin.copy_ #[24,24] ty #[.slice (some ⟨g,(i+1)*2,none⟩) (n-i) dc,.slice (some ⟨g,i*2,none⟩) (n+1-i) sc]).run Tryz.prog w.drew= .ok (goInt (Nat.min (n+1-i) (n-i))) W1:=fun ty dc sc=>by
  rw[hW1,hL1];refine run_copyK w.drew _ _ ty 35 2 g ((i+1)*2) (n-i) dc ⟨g,i*2,none⟩ (n+1-i) sc cur 35 (xs.drop (i*2)) Tryz.underlying24 sz2_PlPair hh ?_ ?_ ?_ ?_
  ·rw[List.length_drop,hxl];simp only[Nat.min_def];split<;>omega
  ·intro j u hj
   have hadd:(⟨g,i*2,none⟩:Addr).add j=⟨g,i*2+j,none⟩:=by unfold Addr.add;split<;>simp_all
   rw[hadd];show(match w.heap[g]? with|some (.cells cs _ _)=>cs[i*2+j]?|_=>none)=_;rw[hh];rw[List.getElem?_drop,←htk,List.getElem?_take]at hj;split at hj
   ·simpa using hj
   ·cases hj
  ·rw[List.length_drop,hxl,hsz];omega
  ·exact fun v hv=>h1x v (List.mem_of_mem_drop hv)
 have hcp2:∀(W:World),W.heap=W1.heap→∀ty dc,(Builtin.copy_ #[24,24] ty #[.slice (some ⟨g,i*2,none⟩) (n+1-i) dc,.slice (some ⟨vb,0,none⟩) 1 1]).run Tryz.prog W= .ok (goInt (Nat.min 1 (n+1-i))) (W.setRow g L2.toArray):=fun W hW ty dc=>by
  rw[hL2]
  have hcell:∀p:Addr,p.block=vb→W.cell? p=w.cell? p:=fun p hp=>by
   have:W.heap[p.block]?=w.heap[p.block]?:=by
    rw[hW,hW1,setRow_other w.drew g p.block _ (by rw[hp];exact hne)];rfl
   unfold World.cell?;rw[this]
  have:=run_copyK W 24 24 ty 35 2 g (i*2) (n+1-i) dc ⟨vb,0,none⟩ 1 1 L1.toArray 35 [.int .u64 k,.int .u64 v] Tryz.underlying24 sz2_PlPair (by rw[hW];exact hW1g) (by simp only[Nat.min_def];split<;>simp<;>omega)
   (two_at (by rw[hcell _ rfl];exact c0) (by rw[hcell _ rfl];exact c1)) (by simp[hl1];omega) two_one
  simpa using this
 have hov:∀lb cb,(callFunc 51 #[.slice (some ⟨vb,0,none⟩) 1 1,.slice (some ⟨g,(i+1)*2,none⟩) lb cb]).run Tryz.prog w= .ok (.value (.bool false)) w:=fun lb cb=>by
  rw[run_callFunc_extern Tryz.func51 (by kernel_rfl) (by kernel_rfl) (by kernel_rfl) (e:=Extern.SlicesOverlaps.overlaps #[24,24] #[4]) (by kernel_rfl),
   Lib.run_overlaps_apart w 24 4 35 Tryz.underlying24 2 size_PlPair ⟨vb,0,none⟩ ⟨g,(i+1)*2,none⟩ 1 1 lb cb hne tv 35 2 (cap*2) (by simp[World.shape?,hBh]) (by simp[World.shape?,hh,hsz]) (by omega) (by simp[World.frozen?,hBh]) (by simp[World.frozen?,hBh])]
  rfl
 have HFin:=qd (fun(W:World) (hW:W.heap=W1.heap) (h1:W.os=w.os) (h2:W.tape=w.tape) (h3:W.output=w.output)=>show InsP base n (.slice (some ⟨g,0,none⟩) n cap) (xs.take (i*2)++([.int .u64 k,.int .u64 v]++xs.drop (i*2))) w (.returned (.slice (some ⟨g,0,none⟩) (n+1) cap)) (W.setRow g L2.toArray)from by
  have hr:=own_setRow (n:=n+1) (cur':=L2.toArray) (xs:=xs.take (i*2)++([.int .u64 k,.int .u64 v]++xs.drop (i*2))) (show W.heap[g]?=_ by rw[hW];exact hW1g) hbg hroom hmax (by simpa using hl2) (by simpa using hfin2);refine⟨_,rfl,hr.1,⟨h1,h2,h3,by simp[World.setRow,hW,hW1],fun q hq hn=> ?_⟩,fun q hq=> .inl hq⟩;have hqg:q≠g:=fun e=>hn (by simp[Value.ownBlock,e]);rw[setRow_other W g q _ hqg,hW,hW1,setRow_other w.drew g q _ hqg]
  rfl)
 have mixed:Tryz.prog.follows Departure.mixedOrders=true:=by kernel_rfl
 have hb1:(0:Int)≤(i:Int)+1:=by omega
 have hz2:¬((i:Int)=(n:Int)):=by omega
 have hw1:IntKind.i64.wrap ((i:Int)+1)=(i:Int)+1:=by rw[IntKind.wrap_i64];unfold maxLen at hmax;omega
 have hw2:IntKind.i64.wrap ((n:Int)+1)=(n:Int)+1:=by rw[IntKind.wrap_i64];unfold maxLen at hmax;omega
 have hin:i≤n:=by omega
 have htn:((i:Int)+1).toNat=i+1:=by omega
 have htn2:((n:Int)+1).toNat=n+1:=by omega
 have hb2:¬(cap=i+1):=by omega
 have hb3:(i:Int)≤(n:Int)+1:=by omega
 have hb4:¬(cap=i):=by omega
 have hE:∀(W:World),W.heap=W1.heap→W.os=w.os→W.tape=w.tape→W.output=w.output→True:=fun _ _ _ _ _=>trivial;obtain⟨ys,hys⟩:∃ys,ys=xs.take (i*2)++([Value.int .u64 k,.int .u64 v]++xs.drop (i*2)):=⟨_,rfl⟩;rw[←hys]at HFin⊢;clear hys hL1 hL2 hfin2 hW1g hh htk hl1 hl2 c0 c1 hB ho hE hmax hsz;go_in;go_wp2_with (simp only[hov]);go_region_law_o (refine step_copy_runI rfl _ _ 24 24 rfl _ _ (by simp[Act.eval,Act.put]) (by simp[Act.eval,Act.put]) (hcp1 _ _ _) ?_);go_wp2_with (at_builtin;refine wpList_copy_runI _ rfl _ _ 24 24 rfl _ _ rfl rfl (hcp2 _ rfl _ _) ?_);go_ret;subst hW1;exact HFin.out _ rfl rfl rfl rfl
theorem insert_grow (ho:w.ownsRow base 35 2 (.slice (some ⟨g,0,none⟩) n c) n xs)(hB:Blk w vb tv #[.int .u64 k,.int .u64 v])(hi:i<n)(hroom:c<n+1)(h1x:∀v∈xs,v.oneCell'=true)(hn:n≤100000)(hbw:base≤w.heap.size):
  Calls Tryz.prog 22 #[.slice (some ⟨g,0,none⟩) n c,.int .i64 (i:Int),.slice (some ⟨vb,0,none⟩) 1 1] w (InsP base n (.slice (some ⟨g,0,none⟩) n c) (xs.take (i*2)++([.int .u64 k,.int .u64 v]++xs.drop (i*2))) w):=by
 obtain⟨c0,c1⟩:=hB.c2;have hvlt:=hB.lt;have hBh:w.heap[vb]?=some (.cells #[.int .u64 k,.int .u64 v] tv (0,0)):=hB;have hxl:=ho.1
 obtain⟨cap,cur,hbg,hh,hcc,hmax,hsz,htk,rfl⟩:∃cap cur,base≤g∧w.heap[g]?=some (.cells cur 35 (0,0))∧n≤cap∧cap≤maxLen∧cur.size=cap*2∧cur.toList.take (n*2)=xs∧cap=c:=by
  rcases ho.2 with⟨h,_⟩|⟨g',cap,cur,hv,h1,h2,h3,h4,h5,h6⟩
  ·cases h
  ·injection hv with hv _ hc
   injection hv with hv
   injection hv with hv _ _
   subst hv;exact⟨cap,cur,h1,h2,h3,h4,h5,h6,hc.symm⟩
 have hgl:g<w.heap.size:=(Array.getElem?_eq_some_iff.1 hh).1;obtain⟨i0,hi0,hz0,hz1,hz2⟩:=info_parts info_PlPair
 have hxc:∀(W:World) (hW:W.heap[g]?=w.heap[g]?) (d:Nat) (ys:List Value),(∀j u,ys[j]?=some u→xs[d+j]?=some u)→∀(j:Nat) (u:Value),ys[j]?=some u→W.cell? ((⟨g,d,none⟩:Addr).add j)=some u:=by
  intro W hW d ys hys j u hj
  have hadd:(⟨g,d,none⟩:Addr).add j=⟨g,d+j,none⟩:=by unfold Addr.add;split<;>simp_all
  rw[hadd];show(match W.heap[g]? with|some (.cells cs _ _)=>cs[d+j]?|_=>none)=_;rw[hW,hh];have h:=hys j u hj;rw[←htk,List.getElem?_take]at h;split at h
  ·simpa using h
  ·cases h
 have hold:(Builtin.firstCells i0.size i (.slice (some ⟨g,0,none⟩) i cap)).run Tryz.prog w.drew= .ok (xs.take (i*2)).toArray w.drew:=by
  rw[hz1]
  exact run_firstCells_some w.drew 2 i ⟨g,0,none⟩ i cap (xs.take (i*2)) (by rw[List.length_take];omega) (hxc w.drew rfl 0 _ (fun j u hj=>by
   rw[List.getElem?_take]at hj;split at hj
   ·rw[Nat.zero_add];exact hj
   ·cases hj))
 obtain⟨G,hG⟩:∃G,G=grownCap w (n+1) cap 35 :=⟨_,rfl⟩;obtain⟨Z,hZ⟩:∃Z:Array Value,Z=Builtin.zeroCells (Value.agg #[.int .u64 0,.int .u64 0]).cells (n+1-i)++Builtin.zeroCells (Value.agg #[.int .u64 0,.int .u64 0]).cells (G-(n+1)):=⟨_,rfl⟩
 have hGn:n+1≤G:=by rw[hG];exact grownCap_ge w _ _ _
 have hG63:G≤maxLen:=by
  rw[hG];exact grownCap_le_maxLen w (n+1) cap 35 (by unfold maxLen;omega)
 have hZl:Z.size=(n+1-i)*2+(G-(n+1))*2:=by
  rw[hZ];simp[Builtin.zeroCells,Value.cells]
 have hrz:∀ty,(Builtin.append_ #[24,3] ty #[.slice (some ⟨g,0,none⟩) i cap,.int .i64 ((n:Int)+1-(i:Int))]).run Tryz.prog w=
   .ok (.slice (some ⟨w.heap.size,0,none⟩) (n+1) G) (w.drew.alloc (.cells ((xs.take (i*2)).toArray++Z) 35)):=fun ty=>by
  have h:=Lib.run_append_grow_zeros w 24 3 ty 35 i0 _ .i64 .i64 Tryz.underlying24 Tryz.underlying3 hi0 hz0 (some ⟨g,0,none⟩) i cap (xs.take (i*2)) hold (n+1-i) (by omega) (by omega) (by omega) (by omega) (by rw[hz2];omega) (by rw[hz2,show i+(n+1-i)=n+1 by omega];exact growslice_fits hroom (by omega));rw[show i+(n+1-i)=n+1 by omega,←hG,Array.append_assoc,←hZ]at h;rw[show(n:Int)+1-(i:Int)=((n+1-i:Nat):Int) by omega];exact h
 have hZt:Z.toList.length=(n+1-i)*2+(G-(n+1))*2:=by rw[Array.length_toList];exact hZl
 obtain⟨L0,hL0⟩:∃L0,L0=xs.take (i*2)++Z.toList:=⟨_,rfl⟩
 have hrow0:(xs.take (i*2)).toArray++Z=L0.toArray:=by rw[hL0];apply Array.ext';simp
 rw[hrow0]at hrz
 have hl0:L0.length=G*2:=by rw[hL0,List.length_append,List.length_take,hZt,hxl];omega
 obtain⟨L1,hL1⟩:∃L1,L1=splice L0 (i*2) [.int .u64 k,.int .u64 v]:=⟨_,rfl⟩;obtain⟨L2,hL2⟩:∃L2,L2=splice L1 ((i+1)*2) (xs.drop (i*2)):=⟨_,rfl⟩
 have hl1:L1.length=G*2:=by rw[hL1,splice_len (by rw[hl0];simp;omega),hl0]
 have hl2:L2.length=G*2:=by rw[hL2,splice_len (by rw[List.length_drop,hxl,hl1];omega),hl1]
 have hfin2:L2.take ((n+1)*2)=xs.take (i*2)++([.int .u64 k,.int .u64 v]++xs.drop (i*2)):=by
  have:=ins_grow (xs:=xs) (vs:=[Value.int .u64 k,.int .u64 v]) (d:=i*2) (Z:=Z.toList) hxl (by omega) (by rw[hZt];simp;omega);rw[hL2,hL1,hL0,show(i+1)*2=i*2+[Value.int .u64 k,.int .u64 v].length by simp;omega,show(n+1)*2=n*2+[Value.int .u64 k,.int .u64 v].length by simp;omega];exact this
 obtain⟨N,hN⟩:∃N,N=w.heap.size:=⟨_,rfl⟩;rw[←hN]at hrz;have hHg:∀(q:Nat) (r:Array Value),q<N→(w.drew.alloc (.cells r 35)).heap[q]?=w.heap[q]?:=fun q r hq=>Below.heap_alloc w.drew _ q (show q<w.heap.size by omega)
 have hHN:∀r:Array Value,(w.drew.alloc (.cells r 35)).heap[N]?=some (.cells r 35 (0,0)):=fun r=>by rw[hN];exact Blk.new w.drew 35 r
 have hcpA:∀(W:World),W.heap=(w.drew.alloc (.cells L0.toArray 35)).heap→∀ty dc,(Builtin.copy_ #[24,24] ty #[.slice (some ⟨N,i*2,none⟩) (n+1-i) dc,.slice (some ⟨vb,0,none⟩) 1 1]).run Tryz.prog W= .ok (goInt (Nat.min 1 (n+1-i))) (W.setRow N L1.toArray):=fun W hW ty dc=>by
  rw[hL1]
  have hcell:∀p:Addr,p.block=vb→W.cell? p=w.cell? p:=fun p hp=>by
   have:W.heap[p.block]?=w.heap[p.block]?:=by rw[hW,hHg _ _ (by rw[hp,hN];exact hvlt)]
   unfold World.cell?;rw[this]
  have:=run_copyK W 24 24 ty 35 2 N (i*2) (n+1-i) dc ⟨vb,0,none⟩ 1 1 L0.toArray 35 [.int .u64 k,.int .u64 v] Tryz.underlying24 sz2_PlPair (by rw[hW];exact hHN _) (by simp only[Nat.min_def];split<;>simp<;>omega)
   (two_at (by rw[hcell _ rfl];exact c0) (by rw[hcell _ rfl];exact c1)) (by simp[hl0];omega) two_one
  simpa using this
 have hcpB:∀(W:World),(W.heap[N]?=some (.cells L1.toArray 35 (0,0))∧W.heap[g]?=w.heap[g]?)→∀ty dc sc,(Builtin.copy_ #[24,24] ty #[.slice (some ⟨N,(i+1)*2,none⟩) (n-i) dc,.slice (some ⟨g,i*2,none⟩) (n-i) sc]).run Tryz.prog W= .ok (goInt (Nat.min (n-i) (n-i))) (W.setRow N L2.toArray):=fun W hW ty dc sc=>by
  rw[hL2]
  have:=run_copyK W 24 24 ty 35 2 N ((i+1)*2) (n-i) dc ⟨g,i*2,none⟩ (n-i) sc L1.toArray 35 (xs.drop (i*2)) Tryz.underlying24 sz2_PlPair hW.1 (by rw[List.length_drop,hxl];simp only[Nat.min_def];split<;>omega)
   (hxc W hW.2 (i*2) _ (fun j u hj=>by rw[List.getElem?_drop]at hj;exact hj)) (by rw[List.length_drop,hxl];simp[hl1];omega) (fun v hv=>h1x v (List.mem_of_mem_drop hv))
  simpa using this
 have hmid:∀W:World,W.heap=((w.drew.alloc (.cells L0.toArray 35)).setRow N L1.toArray).heap→W.heap[N]?=some (.cells L1.toArray 35 (0,0))∧∀q,q<N→W.heap[q]?=w.heap[q]?:=fun W hW=>by
  rw[hW];exact⟨setRow_heap _ N _ _ _ _ (hHN _),fun q hq=>by rw[setRow_other _ N q _ (by omega),hHg q _ hq]⟩
 have HFin:=qd (fun(W:World) (hW:W.heap=((w.drew.alloc (.cells L0.toArray 35)).setRow N L1.toArray).heap) (h1:W.os=w.os) (h2:W.tape=w.tape) (h3:W.output=w.output)=>show InsP base n (.slice (some ⟨g,0,none⟩) n cap) (xs.take (i*2)++([.int .u64 k,.int .u64 v]++xs.drop (i*2))) w (.returned (.slice (some ⟨N,0,none⟩) (n+1) G)) (W.setRow N L2.toArray)from by
  have hm:=hmid W hW
  have hsW:W.heap.size=w.heap.size+1:=by rw[hW];simp[World.setRow]
  have hr:=own_setRow (base:=base) (n:=n+1) (cur':=L2.toArray) (xs:=xs.take (i*2)++([.int .u64 k,.int .u64 v]++xs.drop (i*2))) hm.1 (by omega) hGn hG63 (by simpa using hl2) (by simpa using hfin2);refine⟨_,rfl,hr.1,⟨h1,h2,h3,by simp[World.setRow,hsW],fun q hq hn=> ?_⟩,fun q hq=> .inr ?_⟩
  ·rw[setRow_other W N q _ (by omega)];exact hm.2 q (by omega)
  ·have:q=N:=by simpa[Value.ownBlock]using hq
   omega)
 have HMid:=qd hmid
 have mixed:Tryz.prog.follows Departure.mixedOrders=true:=by kernel_rfl
 have hb1:(0:Int)≤(i:Int)+1:=by omega
 have hz2:¬((i:Int)=(n:Int)):=by omega
 have hz3:(cap:Int)<(n:Int)+1:=by omega
 have hw1:IntKind.i64.wrap ((i:Int)+1)=(i:Int)+1:=by rw[IntKind.wrap_i64];omega
 have hw2:IntKind.i64.wrap ((n:Int)+1)=(n:Int)+1:=by rw[IntKind.wrap_i64];omega
 have hin:i≤n:=by omega
 have htn:((i:Int)+1).toNat=i+1:=by omega
 have hb3:(i:Int)≤(n:Int):=by omega
 have hGi:¬(G=i):=by omega
 have hGim:¬(G=i+1):=by omega
 have hci:¬(cap=i):=by omega
 have hgN:g<N:=by omega
 obtain⟨ys,hys⟩:∃ys,ys=xs.take (i*2)++([Value.int .u64 k,.int .u64 v]++xs.drop (i*2)):=⟨_,rfl⟩;rw[←hys]at HFin⊢;clear hys hL0 hL1 hL2 hfin2 hh htk hl0 hl1 hl2 c0 c1 hB ho hmax hsz hZ hZl hold hxc hHg hHN hG hmid hrow0;subst hN;have hT:=fun(ty:TypeId)=>hcpA ((w.alloc (.cells L0.toArray 35)).drew) rfl ty (G-i);have hM3:=HMid.out ((((w.alloc (.cells L0.toArray 35)).drew).setRow w.heap.size L1.toArray).drew) rfl;have hT2:=hcpB ((((w.alloc (.cells L0.toArray 35)).drew).setRow w.heap.size L1.toArray).drew) ⟨hM3.1,hM3.2 g hgN⟩;clear hM3;go_in
 go_upto_region 10 with(at_builtin;refine Lib.wpList_append_run _ rfl _ _ _ _ rfl _ _ rfl rfl _ _ (hrz _) ?_)
 go_wp2_with (at_builtin;refine wpList_copy_runI _ rfl _ _ 24 24 rfl _ _ rfl rfl (hT _) ?_);go_region_law_o (refine step_copy_runI rfl _ _ 24 24 rfl _ _ (by simp[Act.eval,Act.put]) (by simp[Act.eval,Act.put]) (hT2 _ _ _) ?_);go_wp2;go_ret;exact HFin.out _ rfl rfl rfl rfl
end
section
variable {base fb most : Nat} {w : World} {l : PL} {F : List Nat}
theorem pl_search {A:Option Addr}{c:Nat}(ho:w.ownsRow base 35 2 (.slice A l.length c) l.length (l.flatMap pairC))(ha:AscP l)(hn:l.length≤100000)(key:Nat):
  Calls Tryz.prog 49 #[.slice A l.length c,.int .u64 (key:Int),.func (.func 50) #[] #[]] w fun y w'=>y= .returned (.tuple #[.int .i64 (lowP l key:Int),.bool (isP l key)])∧Below w.heap.size w w':=by
 have hlow:=lowP_le l key;have HO:=qd ho;have HA:=qd ha;have HB:=qd (Below.refl w.heap.size w);obtain⟨lo,hlo⟩:∃lo,lo=lowP l key:=⟨_,rfl⟩;rw[←hlo]at hlow;have HLo:=qd hlo;obtain⟨is,his⟩:∃is,is=isP l key:=⟨_,rfl⟩;have HIs:=qd his;rw[←hlo,←his];clear ho ha hlo his;go_in;go_wp2;go_loopw [9,10,11] (fun v9 v10 _ wr=>∃i j:Nat,i≤lo∧lo≤j∧j≤l.length∧v9= .int .i64 (i:Int)∧v10= .int .i64 (j:Int)∧Hid (Below w.heap.size w wr)) (fun v9 v10 _ _=>((intOf v10)-(intOf v9)).toNat)
 case atStart=>exact⟨0,l.length,by omega,hlow,by omega,rfl,rfl,HB⟩
 case round=>
  clear HB;obtain⟨i,j,hi,hj,hjl,rfl,rfl,HB⟩:=hrel;by_cases hij:i<j
  ·have hij':(i:Int)<(j:Int):=by omega
   obtain⟨m,hm⟩:∃m,m=(i+j)/2:=⟨_,rfl⟩
   have hw1:IntKind.i64.wrap ((i:Int)+(j:Int))=(i:Int)+(j:Int):=by rw[IntKind.wrap_i64];omega
   have hw2:IntKind.u64.wrap ((i:Int)+(j:Int))=(i:Int)+(j:Int):=by rw[IntKind.wrap_u64];omega
   have hw3:((i:Int)+(j:Int))/2=(m:Int):=by omega
   have hw4:IntKind.i64.wrap (m:Int)=(m:Int):=by rw[IntKind.wrap_i64];omega
   have hw5:IntKind.i64.wrap ((m:Int)+1)=((m+1:Nat):Int):=by rw[IntKind.wrap_i64];omega
   have hml:m<l.length:=by omega
   have hm':(m:Int)<(l.length:Int):=by omega
   have hm0:(0:Int)≤(m:Int):=by omega
   obtain⟨p,hp⟩:∃p,l[m]?=some p:=⟨_,List.getElem?_eq_getElem hml⟩;obtain⟨g,off,hA2,hgl,hc⟩:=(Reads.of_own (own_below HO.out HB.out (Nat.le_refl _))).2 (by omega);have r0:wr.cell? ⟨g,off+m*2,none⟩=some (.int .u64 (p.1:Int)):=hc (m*2+0) _ (pairC_at hp (by omega));have r1:wr.cell? ⟨g,off+m*2+1,none⟩=some (.int .u64 (p.2:Int)):=hc (m*2+1) _ (pairC_at hp (by omega));have HK:=qd (fun(W:World)=>pl_byKey p key W);have HLt:=qd (show m<lo↔p.1<key from by rw[HLo.out];exact lowP_lt HA.out hp);have HM:=qd (show i≤m∧m<j by omega);clear hc hp hm;subst hA2;go_wp2_with fail;refine(HK.out _).mono ?_;rintro y w2 ⟨rfl,hb2⟩;have HB2:=qd (HB.out.trans (hb2.mono HB.out.size));clear hb2;by_cases hlt:p.1<key
   ·have hcv:cmpKey p.1 key= -1:=by unfold cmpKey;rw[if_pos hlt]
    rw[hcv];have HI:=qd (show m+1≤lo from HLt.out.2 hlt);clear hcv;go_wp2;go_roundw
    all_goals first|exact⟨m+1,j,HI.out,hj,hjl,rfl,rfl,HB2⟩|(simp[intOf];have:=HM.out;omega)
   ·have hcv:(cmpKey p.1 key<0)=False:=by unfold cmpKey;rw[if_neg hlt];split<;>simp
    have hcd:decide (cmpKey p.1 key<0)=false:=decide_eq_false (fun h=>by rw[hcv]at h;exact h);have HI:=qd (show lo≤m from by have:=HLt.out;omega);go_wp2;go_roundw
    all_goals first|exact⟨i,m,hi,HI.out,by omega,rfl,rfl,HB2⟩|(simp[intOf];have:=HM.out;omega)
  ·obtain rfl:i=lo:=by omega
   obtain rfl:j=i:=by omega
   have hni:¬(j:Int)<(j:Int):=by omega
   by_cases hjn:j<l.length
   ·have hj':(j:Int)<(l.length:Int):=by omega
    have hj0:(0:Int)≤(j:Int):=by omega
    obtain⟨p,hp⟩:∃p,l[j]?=some p:=⟨_,List.getElem?_eq_getElem hjn⟩;obtain⟨g,off,hA2,hgl,hc⟩:=(Reads.of_own (own_below HO.out HB.out (Nat.le_refl _))).2 (by omega);have r0:wr.cell? ⟨g,off+j*2,none⟩=some (.int .u64 (p.1:Int)):=hc (j*2+0) _ (pairC_at hp (by omega));have r1:wr.cell? ⟨g,off+j*2+1,none⟩=some (.int .u64 (p.2:Int)):=hc (j*2+1) _ (pairC_at hp (by omega));have HK:=qd (fun(W:World)=>pl_byKey p key W)
    have HIe:=qd (show is=(cmpKey p.1 key==0)from by
     rw[HIs.out];unfold isP;rw[←HLo.out,hp,Option.any_some];unfold cmpKey;rcases Nat.lt_trichotomy p.1 key with h|h|h
     ·rw[if_pos h];simp;omega
     ·rw[if_neg (by omega),if_neg (by omega)];simp[h]
     ·rw[if_neg (by omega),if_pos h];simp;omega)
    clear hc hp;subst hA2;go_wp2_with fail;refine(HK.out _).mono ?_;rintro y w2 ⟨rfl,hb2⟩;have HB2:=qd (HB.out.trans (hb2.mono HB.out.size));clear hb2;obtain⟨cv,hcv⟩:∃cv,cv=cmpKey p.1 key:=⟨_,rfl⟩;have HC:=qd hcv;rw[←hcv];clear hcv;go_wp2;refine bodyPost_ret (v:= .tuple #[.int .i64 (j:Int),.bool (cv==0)]) (by simp[results,Tryz.results49,go_sem]) rfl ⟨by rw[HIe.out,HC.out],HB2.out⟩
   ·have hj':¬(j:Int)<(l.length:Int):=by omega
    have HIe:=qd (show is=false from by
     rw[HIs.out];unfold isP;rw[←HLo.out,List.getElem?_eq_none (by omega)]
     rfl)
    go_wp2;refine bodyPost_ret (v:= .tuple #[.int .i64 (j:Int),.bool false]) (by simp[results,Tryz.results49,go_sem]) rfl ⟨by rw[HIe.out],HB.out⟩
theorem pl_find (h:PlF base w fb most F l)(hn:l.length≤100000)(key:Nat):
  Calls Tryz.prog 21 #[.pointer (some ⟨fb,0,none⟩),.int .u64 (key:Int)] w fun y w'=>y= .returned (.tuple #[.int .i64 (lowP l key:Int),.bool (isP l key)])∧Below w.heap.size w w':=by
 obtain⟨v,hB,ho,rfl,hb,ha⟩:=h;obtain⟨A,c,rfl⟩:=own_form ho;have c1:=hB.cell 1;simp only[gl]at c1;have HS:=qd (pl_search ho ha hn key);clear hB ho ha;go_in;go_wp2_with fail;refine HS.out.mono ?_;rintro y w1 ⟨rfl,hb1⟩;have HB1:=qd hb1;clear hb1;go_wp2;refine bodyPost_ret (v:= .tuple #[.int .i64 (lowP l key:Int),.bool (isP l key)]) (by simp[results,Tryz.results21,go_sem]) rfl ⟨rfl,HB1.out⟩
theorem pl_Get (h:PlF base w fb most F l)(hn:l.length≤100000)(key:Nat):
  Calls Tryz.prog 7 #[.pointer (some ⟨fb,0,none⟩),.int .u64 (key:Int)] w fun y w'=>y= .returned (.tuple #[.int .u64 (((getP l key).getD 0:Nat):Int),.bool (getP l key).isSome])∧Below w.heap.size w w':=by
 have HF:=qd (pl_find h hn key);have ha:=h.asc;obtain⟨v,hB,ho,rfl,hb,_⟩:=h;obtain⟨A,c,rfl⟩:=own_form ho;have HO:=qd ho;have HB:=qd hB;clear hB ho
 cases hi:isP l key with
 |false=>
  have hg:=isP_false ha hi;rw[hg];rw[hi]at HF;clear hi hg;go_in;go_wp2_with fail;refine HF.out.mono ?_;rintro y w1 ⟨rfl,hb1⟩;have HB1:=qd hb1;clear hb1;go_wp2;refine bodyPost_ret (v:= .tuple #[.int .u64 0,.bool false]) (by simp[results,Tryz.results7,go_sem]) rfl ⟨rfl,HB1.out⟩
 |true=>
  obtain⟨u,hu,hg⟩:=(isP_iff ha).1 hi;rw[hg];rw[hi]at HF;obtain⟨lo,hlo⟩:∃lo,lo=lowP l key:=⟨_,rfl⟩;rw[←hlo]at HF hu;clear hi hg hlo;have hll:lo<l.length:=(List.getElem?_eq_some_iff.1 hu).1
  have hl':(lo:Int)<(l.length:Int):=by omega
  have hl0:(0:Int)≤(lo:Int):=by omega
  go_in;go_wp2_with fail;refine HF.out.mono ?_;rintro y w1 ⟨rfl,hb1⟩;obtain⟨g,off,hA2,hgl,hc⟩:=(Reads.of_own (own_below HO.out hb1 (Nat.le_refl _))).2 (by omega);have r1:w1.cell? ⟨g,off+lo*2+1,none⟩=some (.int .u64 (u:Int)):=hc (lo*2+1) _ (pairC_at hu (by omega));have c1:=(HB.out.below hb1 HB.out.lt).cell 1;simp only[gl]at c1;subst hA2;have HB1:=qd hb1;clear hb1 hc hu;go_wp2;refine bodyPost_ret (v:= .tuple #[.int .u64 (u:Int),.bool true]) (by simp[results,Tryz.results7,go_sem]) rfl ⟨rfl,HB1.out⟩
theorem pl_New (most:Nat)(w:World):
  Calls Tryz.prog 6 #[.int .i64 (most:Int)] w fun y w'=>y= .returned (.pointer (some ⟨w.heap.size,0,none⟩))∧PlF w.heap.size w' w.heap.size most [w.heap.size] []∧Below w.heap.size w w':=by
 go_in;go_wp2;go_ret;exact⟨rfl,⟨_,Blk.new w _ _,World.ownsRow_nil _ _ _ _,rfl,Nat.le_refl _,List.Pairwise.nil⟩,(Below.refl w.heap.size w).alloc (Nat.le_refl _) _⟩
end
section
variable {w : World} {base c n sz : Nat} {t : TypeId} {xs : List Value} {A : Option Addr} {l : PL}
theorem own_cellSet {g i:Nat}(h:w.ownsRow base t sz (.slice (some ⟨g,0,none⟩) n c) n xs)(u:Value):
  (w.setCell ⟨g,i,none⟩ u).ownsRow base t sz (.slice (some ⟨g,0,none⟩) n c) n (xs.set i u)∧Mod [g] w (w.setCell ⟨g,i,none⟩ u):=by
 rcases h.2 with⟨h2,_⟩|⟨g',cap,cur,hv,hg,hh,hcap,hmax,hsz,htk⟩
 ·cases h2
 ·injection hv with hv _ hc
  injection hv with hv
  injection hv with hv _ _
  subst hv hc;have hB:Blk w g t cur:=hh;refine⟨⟨by rw[List.length_set];exact h.1,.inr ⟨g,c,_,rfl,hg,hB.set_ i u,hcap,hmax,by simpa using hsz, ?_⟩⟩,(Mod.refl [g] w).set_ (.inl (by simp)) i u⟩;rw[Array.toList_setIfInBounds,List.take_set,htk]
theorem own_at0 (h:w.ownsRow base t sz (.slice A n c) n xs)(hn:0<n):∃g,A=some ⟨g,0,none⟩∧g<w.heap.size∧base≤g∧n≤c∧(∀i,w.frozen? ⟨g,i,none⟩=false):=by
 rcases h.2 with⟨h2,h0⟩|⟨g,cap,cur,hv,hg,hh,hcap,hmax,hsz,htk⟩
 ·omega
 ·injection hv with hv _ hc
  subst hv hc;exact⟨g,rfl,(Array.getElem?_eq_some_iff.1 hh).1,hg,hcap,fun i=>by simp[World.frozen?,hh]⟩
theorem pl_insert {lo vb:Nat}{k v:Nat}{tv:TypeId}(ho:w.ownsRow base 35 2 (.slice A l.length c) l.length (l.flatMap pairC))(hB:Blk w vb tv #[.int .u64 (k:Int),.int .u64 (v:Int)])(hne:∀g,(Value.slice A l.length c).ownBlock=some g→vb≠g)(hlo:lo≤l.length)(hn:l.length≤100000)(hbw:base≤w.heap.size):
  Calls Tryz.prog 22 #[.slice A l.length c,.int .i64 (lo:Int),.slice (some ⟨vb,0,none⟩) 1 1] w (InsP base l.length (.slice A l.length c) ((l.take lo++(k,v)::l.drop lo).flatMap pairC) w):=by
 have hxs:(l.take lo++(k,v)::l.drop lo).flatMap pairC=(l.flatMap pairC).take (lo*2)++([.int .u64 (k:Int),.int .u64 (v:Int)]++(l.flatMap pairC).drop (lo*2)):=by
  rw[List.flatMap_append,List.flatMap_cons,pairC_take,pairC_drop];rfl
 rw[hxs];by_cases he:lo=l.length
 ·subst he;have h1:=insert_end ho hB hn hbw;rw[List.take_of_length_le (by rw[pairC_length];omega),List.drop_of_length_le (by rw[pairC_length];omega),List.append_nil];exact h1
 ·obtain⟨g,rfl,_,_,hc,_⟩:=own_at0 ho (by omega);by_cases hr:l.length+1≤c
  ·exact insert_shift ho hB (hne g rfl) (by omega) hr (pairC_one l)
  ·exact insert_grow ho hB (by omega) (by omega) (pairC_one l) hn hbw
theorem pl_Put {most fb:Nat}{F:List Nat}(h:PlF base w fb most F l)(hn:l.length≤90000)(key val:Nat)(hroom:isP l key=false→l.length<most)(hm:most≤100000):
  Calls Tryz.prog 8 #[.pointer (some ⟨fb,0,none⟩),.int .u64 (key:Int),.int .u64 (val:Int)] w fun y w'=>y= .returned .nilIface∧PlTo base w w' fb most F (putP l key val):=by
 have HF:=qd (pl_find h (by omega) key);have hput:=putP_asc h.asc key val;obtain⟨v,hB,ho,rfl,hb,ha⟩:=h;obtain⟨A,c,rfl⟩:=own_form ho;have hty:=own_typ ho hB (by decide);have hlow:=lowP_le l key
 cases hi:isP l key with
 |true=>
  obtain⟨u,hu,hg⟩:=(isP_iff ha).1 hi
  have hpp:putP l key val=l.set (lowP l key) (key,val):=by unfold putP;rw[if_pos hi]
  rw[hpp]at hput⊢;rw[hi]at HF;obtain⟨lo,hlo⟩:∃lo,lo=lowP l key:=⟨_,rfl⟩;rw[←hlo]at HF hu hput⊢;have hll:lo<l.length:=(List.getElem?_eq_some_iff.1 hu).1;have hset:=pairC_set hll key val (by rw[hu];rfl);obtain⟨g,rfl,hgl,hbg,hcl,_⟩:=own_at0 ho (by omega)
  have hl':(lo:Int)<(l.length:Int):=by omega
  have hl0:(0:Int)≤(lo:Int):=by omega
  have HX:=qd (And.intro ho (And.intro hB (And.intro hty (And.intro hb (And.intro hput (And.intro hset hu))))));clear hi hg hlo ho hB hty hpp hput hset hroom ha hlow;go_in;go_wp2_with fail;refine HF.out.mono ?_;rintro y w1 ⟨rfl,hb1⟩;have ho1:=own_below HX.out.1 hb1 (Nat.le_refl _);have hB1:=HX.out.2.1.below hb1 HX.out.2.1.lt;have c1:=hB1.cell 1;simp only[gl]at c1;obtain⟨g2,off,hA2,hgl2,hc⟩:=(Reads.of_own ho1).2 (by omega)
  injection hA2 with hA2
  injection hA2 with hA2 hA3 _
  subst hA2 hA3
  have r1:w1.cell? ⟨g,lo*2+1,none⟩=some (.int .u64 (u:Int)):=by have:=hc (lo*2+1) _ (pairC_at HX.out.2.2.2.2.2.2 (by omega));rw[Nat.zero_add]at this;exact this
  have hfz:w1.frozen? ⟨g,lo*2+1,none⟩=false:=by
   obtain⟨g3,h3,_,_,_,h4⟩:=own_at0 ho1 (by omega)
   injection h3 with h3
   injection h3 with h3 _ _
   subst h3;exact h4 _
  have HB1:=qd (And.intro hb1 (And.intro ho1 hB1));clear hb1 ho1 hB1 hc;go_wp2;go_ret;refine⟨rfl,_,⟨_,HB1.out.2.2.far (p:=⟨g,lo*2+1,none⟩) (fun e=>HX.out.2.2.1 (by simp[Value.ownBlock,e])) _, ?_,rfl,HX.out.2.2.2.1,HX.out.2.2.2.2.1⟩,fun q hq=> .inl hq, ?_⟩
  ·have h1:=(own_cellSet (i:=lo*2+1) HB1.out.2.1 (.int .u64 (val:Int))).1;rw[HX.out.2.2.2.2.2.1]at h1;rw[List.length_set];exact h1
  ·exact(Mod.of_below HB1.out.1 _).then ((Mod.refl _ _).set_ (.inl (by simp[Value.ownBlock])) _ _)
 |false=>
  have hlm:=hroom hi
  have hpp:putP l key val=l.take (lowP l key)++(key,val)::l.drop (lowP l key):=by unfold putP;rw[if_neg (by rw[hi];simp)]
  rw[hpp]at hput⊢;rw[hi]at HF;obtain⟨lo,hlo⟩:∃lo,lo=lowP l key:=⟨_,rfl⟩;rw[←hlo]at HF hput hlow⊢
  have hl':¬(most:Int)≤(l.length:Int):=by omega
  obtain⟨l2,hl2⟩:∃l2,l2=l.take lo++(key,val)::l.drop lo:=⟨_,rfl⟩
  have hlen2:l2.length=l.length+1:=by rw[hl2,List.length_append,List.length_cons,List.length_take,List.length_drop];omega
  rw[←hl2]at hput⊢;have HX:=qd (And.intro ho (And.intro hB (And.intro hty (And.intro hb (And.intro hput (And.intro hlow (And.intro hl2 hlen2)))))));clear hi hlo ho hB hty hpp hput hroom ha hlow hlm hl2 hlen2;go_in;go_wp2_with fail;refine HF.out.mono ?_;rintro y w1 ⟨rfl,hb1⟩;have ho1:=own_below HX.out.1 hb1 (Nat.le_refl _);have hB1:=HX.out.2.1.below hb1 HX.out.2.1.lt;obtain⟨c0,c1⟩:=hB1.c2;have HB1:=qd (And.intro hb1 (And.intro ho1 hB1));clear hb1 ho1 hB1;go_upto_region 5 with fail;go_region;go_upto_region 2 with fail;refine nameW (F:=fun W=>Below w1.heap.size w1 W) (Below.refl _ _).drew ?_;rintro w2 hb2;have ho2:=own_below HB1.out.2.1 hb2 (Nat.le_refl _);have hB2:=HB1.out.2.2.below hb2 HB1.out.2.2.lt
  have hbs:base≤w2.heap.size:=by have:=HX.out.2.2.2.1;have:=hB2.lt;omega
  have hI:=fun(tv:TypeId)=>pl_insert (lo:=lo) (k:=key) (v:=val) (w:=w2.alloc (.cells #[.int .u64 (key:Int),.int .u64 (val:Int)] tv)) (vb:=w2.heap.size) (ho2.alloc _) (Blk.new w2 tv _) (fun g hg e=>by have:=(ho2.lt g hg).2;omega) HX.out.2.2.2.2.2.1 (by omega) (by simp;omega);rw[←HX.out.2.2.2.2.2.2.1]at hI;have HI:=qd hI;have HB2:=qd (And.intro (HB1.out.1.trans (hb2.mono HB1.out.1.size)) (And.intro ho2 hB2));replace c1:w2.cell? ⟨fb,1,none⟩=some (.slice A l.length c):=cell_in hb2 c1;clear hb2 ho2 hB2 hI HB1 c0;go_wp2_with fail;refine(HI.out _).mono ?_;rintro y w3 ⟨v',rfl,ho3,hm3,hs3⟩;obtain⟨A',c',rfl⟩:=own_form ho3;have hlt:fb<w2.heap.size:=HB2.out.2.2.lt;have hB3:Blk w3 fb 60 #[.int .i64 (most:Int),.slice A l.length c]:=(HB2.out.2.2.alloc _).mod hm3 HX.out.2.2.1;have c1:=hB3.cell 1;have f1:=hB3.frozen 1;simp only[gl]at c1
  have hsz:w2.heap.size+1≤w3.heap.size:=by have:=hm3.size;simpa using this
  have hne3:fb∉(Value.slice A' (l.length+1) c').ownBlock.toList:=fun hq=>(hs3 fb hq).elim HX.out.2.2.1 (fun k=>by simp at k;omega)
  have HY:=qd (show PlTo base w (w3.setCell ⟨fb,1,none⟩ (.slice A' (l.length+1) c')) fb most (fb::(Value.slice A l.length c).ownBlock.toList) l2 from by
   have hm0:Mod (fb::(Value.slice A l.length c).ownBlock.toList) w w3:=((Mod.of_below HB2.out.1 _).alloc _).then (hm3.more (fun q hq=>List.mem_cons_of_mem _ hq));refine⟨_,⟨_,hB3.set_ 1 _, ?_,rfl,HX.out.2.2.2.1,HX.out.2.2.2.2.1⟩,fun q hq=> ?_,hm0.then ((Mod.refl _ _).set_ (.inl (by simp)) _ _)⟩
   ·have hx:=HX.out.2.2.2.2.2.2.2;refine⟨by rw[pairC_length], ?_⟩;rw[hx];rcases ho3.2 with k|⟨g,cap,cur,hv3,k2,k3,k4⟩
    ·exact .inl k
    ·refine .inr ⟨g,cap,cur,hv3,k2, ?_,k4⟩;exact(Below.heap_setCell w3 ⟨fb,1,none⟩ _ g (fun e=>hne3 (by rw[hv3];simp[Value.ownBlock,e]))).trans k3
   ·rcases List.mem_cons.1 hq with rfl|hq
    ·exact .inl (by simp)
    ·rcases hs3 q hq with k|k
     ·exact .inl (List.mem_cons_of_mem _ k)
     ·refine .inr ?_;have h1:=HB2.out.1.size;simp at k
      omega)
  clear hB3 ho3 hm3 hs3 hne3;go_wp2;go_ret;exact⟨rfl,HY.out⟩
end
end Go.Proofs.YthfgacnlojmmfaaGreatDoor
