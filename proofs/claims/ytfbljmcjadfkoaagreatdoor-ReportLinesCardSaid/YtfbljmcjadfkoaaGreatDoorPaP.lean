/- Rows of a record (a number, how often): the library's search and insertion at them, by contract. No statement of the claim. -/
import Derived.Test.YtfbljmcjadfkoaaGreatDoorPlD
import Derived.Test.YtfbljmcjadfkoaaGreatDoorSq
namespace Go.Proofs.YtfbljmcjadfkoaaGreatDoor
set_option maxRecDepth 100000
set_option maxHeartbeats 4000000
open Go.RowKit Go.Shelf AmC AmL
variable {l : PL} {base c g i n vb : Nat} {w : World} {A : Option Addr} {xs : List Value} {tv : TypeId}
def rowC (p:Nat×Nat):List Value:=[.int .i64 (p.1:Int),.int .i64 (p.2:Int)]
theorem rowC_at {p:Nat×Nat}{q:Nat}:∀{l:PL} {i:Nat},l[i]?=some p→q<2→(l.flatMap rowC)[i*2+q]?=some ((rowC p)[q]!)
 | [],_,h,_=>by simp at h
 |x::l,0,h,hq=>by
  obtain rfl:=Option.some.inj h;rw[List.flatMap_cons,List.getElem?_append_left (by simp[rowC];omega)]
  have:q=0∨q=1:=by omega
  rcases this with rfl|rfl<;>rfl
 |x::l,i+1,h,hq=>by
  rw[List.flatMap_cons,List.getElem?_append_right (by simp[rowC];omega)];have:=rowC_at (l:=l) (i:=i) h hq;rw[show(i+1)*2+q-(rowC x).length=i*2+q by simp[rowC];omega];exact this
theorem rowC_length (l:PL):(l.flatMap rowC).length=l.length*2:=by
 induction l with
 |nil=>rfl
 |cons x l ih=>rw[List.flatMap_cons,List.length_append,ih,List.length_cons];simp[rowC];omega
theorem rowC_one (l:PL):∀v∈l.flatMap rowC,v.oneCell'=true:=by
 intro v hv;obtain⟨p,_,hp⟩:=List.mem_flatMap.1 hv;simp only[rowC,List.mem_cons,List.not_mem_nil,or_false]at hp
 rcases hp with rfl|rfl<;>rfl
theorem rowC_take (l:PL)(i:Nat):(l.flatMap rowC).take (i*2)=(l.take i).flatMap rowC:=by
 by_cases hi:i≤l.length
 ·have h:=congrArg (List.flatMap rowC) (List.take_append_drop i l);rw[List.flatMap_append]at h;rw[←h,List.take_append_of_le_length (by rw[rowC_length,List.length_take];omega),List.take_of_length_le (by rw[rowC_length,List.length_take];omega)]
 ·rw[List.take_of_length_le (by rw[rowC_length];omega),List.take_of_length_le (by omega)]
theorem rowC_drop (l:PL)(i:Nat):(l.flatMap rowC).drop (i*2)=(l.drop i).flatMap rowC:=by
 have h:=congrArg (List.flatMap rowC) (List.take_append_drop i l);rw[List.flatMap_append]at h;by_cases hi:i≤l.length
 ·rw[←h,List.drop_append_of_le_length (by rw[rowC_length,List.length_take];omega),List.drop_of_length_le (by rw[rowC_length,List.length_take];omega),List.nil_append]
 ·rw[List.drop_of_length_le (by rw[rowC_length];omega),List.drop_of_length_le (by omega)];rfl
theorem rowC_set (h:i<l.length)(k v:Nat)(hk:(l[i]?).map Prod.fst=some k):(l.flatMap rowC).set (i*2+1) (.int .i64 (v:Int))=(l.set i (k,v)).flatMap rowC:=by
 induction l generalizing i with
 |nil=>simp at h
 |cons x l ih=>
  cases i with
  |zero=>
   have:x.1=k:=by simpa using hk
   simp[rowC,this]
  |succ i=>
   rw[List.set_cons_succ,List.flatMap_cons,List.flatMap_cons,←ih (by simpa using h) (by simpa using hk),List.set_append_right _ _ (by simp[rowC];omega)];congr 2;simp[rowC];omega
theorem info_PaRow:(Tryz.prog.info? 87).map (fun i=>(i.zero,i.size,i.bytes))=some (some (.agg #[.int .i64 0,.int .i64 0]),2,16):=by kernel_rfl
theorem isNaN_num (x:Int)(w:World):Calls Tryz.prog 106 #[.int .i64 x] w fun y w'=>y= .returned (.bool false)∧w=w':=by
 go_in;go_wp2;go_ret;exact⟨by simp,rfl⟩
theorem compare_num (a b:Nat)(w:World):Calls Tryz.prog 67 #[.int .i64 (a:Int),.int .i64 (b:Int)] w fun e w'=>e= .returned (.int .i64 (cmpKey a b))∧w=w':=by
 have HN:=qd (fun(z:Int) (W:World)=>isNaN_num z W);obtain⟨v,hv⟩:∃v,v=cmpKey a b:=⟨_,rfl⟩;rw[←hv];rcases Nat.lt_trichotomy a b with h|h|h
 ·have h1:(a:Int)<(b:Int):=by omega
  obtain rfl:v= -1:=by rw[hv];unfold cmpKey;rw[if_pos h]
  clear hv h;go_in;go_wp2_with fail;refine(HN.out _ _).mono ?_;rintro e wq ⟨rfl,rfl⟩;go_wp2_with fail;refine(HN.out _ _).mono ?_;rintro e wq ⟨rfl,rfl⟩;go_wp2;go_ret;exact⟨rfl,rfl⟩
 ·subst h
  obtain rfl:v=0:=by rw[hv];unfold cmpKey;simp
  clear hv;go_in;go_wp2_with fail;refine(HN.out _ _).mono ?_;rintro e wq ⟨rfl,rfl⟩;go_wp2_with fail;refine(HN.out _ _).mono ?_;rintro e wq ⟨rfl,rfl⟩;go_wp2;go_ret;exact⟨rfl,rfl⟩
 ·have h1:¬(a:Int)<(b:Int):=by omega
  have h2:(b:Int)<(a:Int):=by omega
  obtain rfl:v=1:=by rw[hv];unfold cmpKey;rw[if_neg (by omega),if_pos h]
  clear hv h;go_in;go_wp2_with fail;refine(HN.out _ _).mono ?_;rintro e wq ⟨rfl,rfl⟩;go_wp2_with fail;refine(HN.out _ _).mono ?_;rintro e wq ⟨rfl,rfl⟩;go_wp2;go_ret;exact⟨rfl,rfl⟩
theorem pa_byNumber (p:Nat×Nat)(key:Nat)(w:World):Calls Tryz.prog 38 #[.agg #[.int .i64 (p.1:Int),.int .i64 (p.2:Int)],.int .i64 (key:Int)] w fun e w'=>e= .returned (.int .i64 (cmpKey p.1 key))∧Below w.heap.size w w':=by
 have HC:=qd (fun(W:World)=>compare_num p.1 key W);go_in;go_wp2_with fail;refine(HC.out _).mono ?_;rintro e wq ⟨rfl,rfl⟩;go_wp2;go_ret;exact⟨rfl,(Below.refl w.heap.size w).alloc (Nat.le_refl _) _⟩
theorem size_PaRow (w:World):(Go.sizeOf 87).run Tryz.prog w= .ok 2 w:=by kernel_rfl
theorem sz2_PaRow:(Tryz.prog.info? 87).map (·.size)=some 2:=by kernel_rfl
theorem rtwo_one {k v:Int}:∀x∈[Value.int .i64 k,Value.int .i64 v],x.oneCell'=true:=by
 intro x hx;simp only[List.mem_cons,List.not_mem_nil,or_false]at hx
 rcases hx with rfl|rfl<;>rfl
theorem rtwo_at {k v:Int}(c0:w.cell? ⟨vb,0,none⟩=some (.int .i64 k))(c1:w.cell? ⟨vb,1,none⟩=some (.int .i64 v)):∀(j:Nat) (u:Value),[Value.int .i64 k,Value.int .i64 v][j]?=some u→w.cell? ((⟨vb,0,none⟩:Addr).add j)=some u:=by
 intro j u hj
 have hadd:(⟨vb,0,none⟩:Addr).add j=⟨vb,j,none⟩:=by unfold Addr.add;split<;>simp_all
 rw[hadd]
 match j,hj with
 |0,hj=>obtain rfl:=Option.some.inj hj;exact c0
 |1,hj=>obtain rfl:=Option.some.inj hj;exact c1
 |j+2,hj=>simp at hj
def InsR (base n:Nat)(v0:Value)(xs:List Value)(w:World)(e:Ending)(w':World):Prop:=
 ∃v',e= .returned v'∧w'.ownsRow base 87 2 v' (n+1) xs∧Mod v0.ownBlock.toList w w'∧∀q∈v'.ownBlock.toList,q∈v0.ownBlock.toList∨w.heap.size≤q
theorem pinsert_end {k v:Int}(ho:w.ownsRow base 87 2 (.slice A n c) n xs)(hB:Blk w vb tv #[.int .i64 k,.int .i64 v])(hn:n≤100000)(hbw:base≤w.heap.size):
  Calls Tryz.prog 39 #[.slice A n c,.int .i64 (n:Int),.slice (some ⟨vb,0,none⟩) 1 1] w (InsR base n (.slice A n c) (xs++[.int .i64 k,.int .i64 v]) w):=by
 obtain⟨c0,c1⟩:=hB.c2;have HA:=qd (rtwo_at c0 c1);have HO:=qd ho;obtain⟨i0,hi0,hz0,hz1,hz2⟩:=info_parts info_PaRow;have HI:=qd (And.intro hi0 (And.intro hz0 (And.intro hz1 hz2)));have hcap:=own_caps ho;clear ho hB hi0 hz0 hz1 hz2 c0 c1
 have hfin:∀v' w1,w1.ownsRow base 87 2 v' (n+1) (xs++[.int .i64 k,.int .i64 v])→w.grownBy w1 (Value.slice A n c).ownBlock→(v'.ownBlock=(Value.slice A n c).ownBlock∨v'.ownBlock=some w.heap.size)→InsR base n (.slice A n c) (xs++[.int .i64 k,.int .i64 v]) w (.returned v') w1:=by
  intro v' w1 hown hg hat;refine⟨v',rfl,hown,⟨hg.os,hg.tape,hg.output,hg.size,fun q hq hne=>hg.block q hq (fun e=>hne (by simp[e]))⟩,fun q hq=> ?_⟩;rcases hat with hat|hat
  ·exact .inl (by rw[←hat];exact hq)
  ·refine .inr ?_;rw[hat]at hq
   have:q=w.heap.size:=by simpa using hq
   omega
 have HFin:=qd hfin;clear hfin;rcases hcap with⟨rfl,rfl,rfl⟩|⟨g,rfl,_⟩
 ·go_in;go_wp2_with (at_builtin;refine wpList_append_own_at _ rfl _ _ 31 rfl base 87 i0 _ 2 16 Tryz.underlying31 HI.out.1 HI.out.2.1 HI.out.2.2.1 HI.out.2.2.2 rfl (by omega) _ _ _ rfl HO.out ⟨vb,0,none⟩ 1 1 [.int .i64 k,.int .i64 v] rfl rfl HA.out rtwo_one (by simp[maxLen]) (by omega) hbw ?_;intro v' w1 hown hg _ hat;have HP:=qd (HFin.out v' w1 hown hg hat);clear hown hg hat);go_ret;exact HP.out
 ·go_in;go_wp2_with (at_builtin;refine wpList_append_own_at _ rfl _ _ 31 rfl base 87 i0 _ 2 16 Tryz.underlying31 HI.out.1 HI.out.2.1 HI.out.2.2.1 HI.out.2.2.2 rfl (by omega) _ _ _ rfl HO.out ⟨vb,0,none⟩ 1 1 [.int .i64 k,.int .i64 v] rfl rfl HA.out rtwo_one (by simp[maxLen];omega) (by omega) hbw ?_;intro v' w1 hown hg _ hat;have HP:=qd (HFin.out v' w1 hown hg hat);clear hown hg hat)
  all_goals go_ret
  all_goals exact HP.out
theorem pinsert_shift {k v:Int}(ho:w.ownsRow base 87 2 (.slice (some ⟨g,0,none⟩) n c) n xs)(hB:Blk w vb tv #[.int .i64 k,.int .i64 v])(hne:vb≠g)(hi:i<n)(hroom:n+1≤c)(h1x:∀v∈xs,v.oneCell'=true):
  Calls Tryz.prog 39 #[.slice (some ⟨g,0,none⟩) n c,.int .i64 (i:Int),.slice (some ⟨vb,0,none⟩) 1 1] w (InsR base n (.slice (some ⟨g,0,none⟩) n c) (xs.take (i*2)++([.int .i64 k,.int .i64 v]++xs.drop (i*2))) w):=by
 obtain⟨c0,c1⟩:=hB.c2;have hvlt:=hB.lt;have hBh:w.heap[vb]?=some (.cells #[.int .i64 k,.int .i64 v] tv (0,0)):=hB;have hxl:=ho.1
 obtain⟨cap,cur,hbg,hh,hcc,hmax,hsz,htk,rfl⟩:∃cap cur,base≤g∧w.heap[g]?=some (.cells cur 87 (0,0))∧n≤cap∧cap≤maxLen∧cur.size=cap*2∧cur.toList.take (n*2)=xs∧cap=c:=by
  rcases ho.2 with⟨h,_⟩|⟨g',cap,cur,hv,h1,h2,h3,h4,h5,h6⟩
  ·cases h
  ·injection hv with hv _ hc
   injection hv with hv
   injection hv with hv _ _
   subst hv;exact⟨cap,cur,h1,h2,h3,h4,h5,h6,hc.symm⟩
 obtain⟨L1,hL1⟩:∃L1,L1=splice cur.toList ((i+1)*2) (xs.drop (i*2)):=⟨_,rfl⟩;obtain⟨L2,hL2⟩:∃L2,L2=splice L1 (i*2) [.int .i64 k,.int .i64 v]:=⟨_,rfl⟩
 have hl1:L1.length=cap*2:=by rw[hL1,splice_len (by rw[List.length_drop,hxl,Array.length_toList];omega),Array.length_toList,hsz]
 have hl2:L2.length=cap*2:=by rw[hL2,splice_len (by rw[hl1];simp;omega),hl1]
 have hfin2:L2.take ((n+1)*2)=xs.take (i*2)++([.int .i64 k,.int .i64 v]++xs.drop (i*2)):=by
  have:=ins_shift (L:=cur.toList) (vs:=[Value.int .i64 k,.int .i64 v]) (d:=i*2) htk (by omega) (by rw[Array.length_toList];simp;omega);rw[hL2,hL1,show(i+1)*2=i*2+[Value.int .i64 k,.int .i64 v].length by simp;omega,show(n+1)*2=n*2+[Value.int .i64 k,.int .i64 v].length by simp;omega];exact this
 have hgl:g<w.heap.size:=(Array.getElem?_eq_some_iff.1 hh).1;obtain⟨W1,hW1⟩:∃W1,W1=w.drew.setRow g L1.toArray:=⟨_,rfl⟩
 have hW1g:W1.heap[g]?=some (.cells L1.toArray 87 (0,0)):=by rw[hW1];exact setRow_heap w.drew g cur _ _ _ hh
 have hcp1:∀ty dc sc,(Builtin.copy_ #[31,31] ty #[.slice (some ⟨g,(i+1)*2,none⟩) (n-i) dc,.slice (some ⟨g,i*2,none⟩) (n+1-i) sc]).run Tryz.prog w.drew= .ok (goInt (Nat.min (n+1-i) (n-i))) W1:=fun ty dc sc=>by
  rw[hW1,hL1];refine run_copyK w.drew _ _ ty 87 2 g ((i+1)*2) (n-i) dc ⟨g,i*2,none⟩ (n+1-i) sc cur 87 (xs.drop (i*2)) Tryz.underlying31 sz2_PaRow hh ?_ ?_ ?_ ?_
  ·rw[List.length_drop,hxl];simp only[Nat.min_def];split<;>omega
  ·intro j u hj
   have hadd:(⟨g,i*2,none⟩:Addr).add j=⟨g,i*2+j,none⟩:=by unfold Addr.add;split<;>simp_all
   rw[hadd];show(match w.heap[g]? with|some (.cells cs _ _)=>cs[i*2+j]?|_=>none)=_;rw[hh];rw[List.getElem?_drop,←htk,List.getElem?_take]at hj;split at hj
   ·simpa using hj
   ·cases hj
  ·rw[List.length_drop,hxl,hsz];omega
  ·exact fun v hv=>h1x v (List.mem_of_mem_drop hv)
 have hcp2:∀(W:World),W.heap=W1.heap→∀ty dc,(Builtin.copy_ #[31,31] ty #[.slice (some ⟨g,i*2,none⟩) (n+1-i) dc,.slice (some ⟨vb,0,none⟩) 1 1]).run Tryz.prog W= .ok (goInt (Nat.min 1 (n+1-i))) (W.setRow g L2.toArray):=fun W hW ty dc=>by
  rw[hL2]
  have hcell:∀p:Addr,p.block=vb→W.cell? p=w.cell? p:=fun p hp=>by
   have:W.heap[p.block]?=w.heap[p.block]?:=by
    rw[hW,hW1,setRow_other w.drew g p.block _ (by rw[hp];exact hne)];rfl
   unfold World.cell?;rw[this]
  have:=run_copyK W 31 31 ty 87 2 g (i*2) (n+1-i) dc ⟨vb,0,none⟩ 1 1 L1.toArray 87 [.int .i64 k,.int .i64 v] Tryz.underlying31 sz2_PaRow (by rw[hW];exact hW1g) (by simp only[Nat.min_def];split<;>simp<;>omega)
   (rtwo_at (by rw[hcell _ rfl];exact c0) (by rw[hcell _ rfl];exact c1)) (by simp[hl1];omega) rtwo_one
  simpa using this
 have hov:∀lb cb,(callFunc 68 #[.slice (some ⟨vb,0,none⟩) 1 1,.slice (some ⟨g,(i+1)*2,none⟩) lb cb]).run Tryz.prog w= .ok (.value (.bool false)) w:=fun lb cb=>by
  rw[run_callFunc_extern Tryz.func68 (by kernel_rfl) (by kernel_rfl) (by kernel_rfl) (e:=Extern.SlicesOverlaps.overlaps #[31,31] #[4]) (by kernel_rfl),
   Lib.run_overlaps_apart w 31 4 87 Tryz.underlying31 2 size_PaRow ⟨vb,0,none⟩ ⟨g,(i+1)*2,none⟩ 1 1 lb cb hne tv 87 2 (cap*2) (by simp[World.shape?,hBh]) (by simp[World.shape?,hh,hsz]) (by omega) (by simp[World.frozen?,hBh]) (by simp[World.frozen?,hBh])]
  rfl
 have HFin:=qd (fun(W:World) (hW:W.heap=W1.heap) (h1:W.os=w.os) (h2:W.tape=w.tape) (h3:W.output=w.output)=>show InsR base n (.slice (some ⟨g,0,none⟩) n cap) (xs.take (i*2)++([.int .i64 k,.int .i64 v]++xs.drop (i*2))) w (.returned (.slice (some ⟨g,0,none⟩) (n+1) cap)) (W.setRow g L2.toArray)from by
  have hr:=own_setRow (n:=n+1) (cur':=L2.toArray) (xs:=xs.take (i*2)++([.int .i64 k,.int .i64 v]++xs.drop (i*2))) (show W.heap[g]?=_ by rw[hW];exact hW1g) hbg hroom hmax (by simpa using hl2) (by simpa using hfin2);refine⟨_,rfl,hr.1,⟨h1,h2,h3,by simp[World.setRow,hW,hW1],fun q hq hn=> ?_⟩,fun q hq=> .inl hq⟩;have hqg:q≠g:=fun e=>hn (by simp[Value.ownBlock,e]);rw[setRow_other W g q _ hqg,hW,hW1,setRow_other w.drew g q _ hqg]
  rfl)
 have mixed:Tryz.prog.follows Departure.mixedOrders=true:=by kernel_rfl
 have hb1:(0:Int)≤(i:Int)+1:=by omega
 have hz2:¬((i:Int)=(n:Int)):=by omega
 have hw1:IntKind.i64.wrap ((i:Int)+1)=(i:Int)+1:=by rw[IntKind.wrap_i64];unfold maxLen at hmax;omega
 have hw2:IntKind.i64.wrap ((n:Int)+1)=(n:Int)+1:=by rw[IntKind.wrap_i64];unfold maxLen at hmax;omega
 have hin:i≤n:=by omega
 have htn:((i:Int)+1).toNat=i+1:=by omega
 have htn2:((n:Int)+1).toNat=n+1:=by omega
 have hb2:¬(cap=i+1):=by omega
 have hb3:(i:Int)≤(n:Int)+1:=by omega
 have hb4:¬(cap=i):=by omega
 have hE:∀(W:World),W.heap=W1.heap→W.os=w.os→W.tape=w.tape→W.output=w.output→True:=fun _ _ _ _ _=>trivial;obtain⟨ys,hys⟩:∃ys,ys=xs.take (i*2)++([Value.int .i64 k,.int .i64 v]++xs.drop (i*2)):=⟨_,rfl⟩;rw[←hys]at HFin⊢;clear hys hL1 hL2 hfin2 hW1g hh htk hl1 hl2 c0 c1 hB ho hE hmax hsz;go_in;go_wp2_with (simp only[hov]);go_region_law_o (refine step_copy_runI rfl _ _ 31 31 rfl _ _ (by simp[Act.eval,Act.put]) (by simp[Act.eval,Act.put]) (hcp1 _ _ _) ?_);go_wp2_with (at_builtin;refine wpList_copy_runI _ rfl _ _ 31 31 rfl _ _ rfl rfl (hcp2 _ rfl _ _) ?_);go_ret;subst hW1;exact HFin.out _ rfl rfl rfl rfl
theorem pinsert_grow {k v:Int}(ho:w.ownsRow base 87 2 (.slice (some ⟨g,0,none⟩) n c) n xs)(hB:Blk w vb tv #[.int .i64 k,.int .i64 v])(hi:i<n)(hroom:c<n+1)(h1x:∀v∈xs,v.oneCell'=true)(hn:n≤100000)(hbw:base≤w.heap.size):
  Calls Tryz.prog 39 #[.slice (some ⟨g,0,none⟩) n c,.int .i64 (i:Int),.slice (some ⟨vb,0,none⟩) 1 1] w (InsR base n (.slice (some ⟨g,0,none⟩) n c) (xs.take (i*2)++([.int .i64 k,.int .i64 v]++xs.drop (i*2))) w):=by
 obtain⟨c0,c1⟩:=hB.c2;have hvlt:=hB.lt;have hBh:w.heap[vb]?=some (.cells #[.int .i64 k,.int .i64 v] tv (0,0)):=hB;have hxl:=ho.1
 obtain⟨cap,cur,hbg,hh,hcc,hmax,hsz,htk,rfl⟩:∃cap cur,base≤g∧w.heap[g]?=some (.cells cur 87 (0,0))∧n≤cap∧cap≤maxLen∧cur.size=cap*2∧cur.toList.take (n*2)=xs∧cap=c:=by
  rcases ho.2 with⟨h,_⟩|⟨g',cap,cur,hv,h1,h2,h3,h4,h5,h6⟩
  ·cases h
  ·injection hv with hv _ hc
   injection hv with hv
   injection hv with hv _ _
   subst hv;exact⟨cap,cur,h1,h2,h3,h4,h5,h6,hc.symm⟩
 have hgl:g<w.heap.size:=(Array.getElem?_eq_some_iff.1 hh).1;obtain⟨i0,hi0,hz0,hz1,hz2⟩:=info_parts info_PaRow
 have hxc:∀(W:World) (hW:W.heap[g]?=w.heap[g]?) (d:Nat) (ys:List Value),(∀j u,ys[j]?=some u→xs[d+j]?=some u)→∀(j:Nat) (u:Value),ys[j]?=some u→W.cell? ((⟨g,d,none⟩:Addr).add j)=some u:=by
  intro W hW d ys hys j u hj
  have hadd:(⟨g,d,none⟩:Addr).add j=⟨g,d+j,none⟩:=by unfold Addr.add;split<;>simp_all
  rw[hadd];show(match W.heap[g]? with|some (.cells cs _ _)=>cs[d+j]?|_=>none)=_;rw[hW,hh];have h:=hys j u hj;rw[←htk,List.getElem?_take]at h;split at h
  ·simpa using h
  ·cases h
 have hold:(Builtin.firstCells i0.size i (.slice (some ⟨g,0,none⟩) i cap)).run Tryz.prog w.drew= .ok (xs.take (i*2)).toArray w.drew:=by
  rw[hz1]
  exact run_firstCells_some w.drew 2 i ⟨g,0,none⟩ i cap (xs.take (i*2)) (by rw[List.length_take];omega) (hxc w.drew rfl 0 _ (fun j u hj=>by
   rw[List.getElem?_take]at hj;split at hj
   ·rw[Nat.zero_add];exact hj
   ·cases hj))
 obtain⟨G,hG⟩:∃G,G=grownCap w (n+1) cap 87 :=⟨_,rfl⟩;obtain⟨Z,hZ⟩:∃Z:Array Value,Z=Builtin.zeroCells (Value.agg #[.int .i64 0,.int .i64 0]).cells (n+1-i)++Builtin.zeroCells (Value.agg #[.int .i64 0,.int .i64 0]).cells (G-(n+1)):=⟨_,rfl⟩
 have hGn:n+1≤G:=by rw[hG];exact grownCap_ge w _ _ _
 have hG63:G≤maxLen:=by
  rw[hG];exact grownCap_le_maxLen w (n+1) cap 87 (by unfold maxLen;omega)
 have hZl:Z.size=(n+1-i)*2+(G-(n+1))*2:=by
  rw[hZ];simp[Builtin.zeroCells,Value.cells]
 have hrz:∀ty,(Builtin.append_ #[31,3] ty #[.slice (some ⟨g,0,none⟩) i cap,.int .i64 ((n:Int)+1-(i:Int))]).run Tryz.prog w=
   .ok (.slice (some ⟨w.heap.size,0,none⟩) (n+1) G) (w.drew.alloc (.cells ((xs.take (i*2)).toArray++Z) 87)):=fun ty=>by
  have h:=Lib.run_append_grow_zeros w 31 3 ty 87 i0 _ .i64 .i64 Tryz.underlying31 Tryz.underlying3 hi0 hz0 (some ⟨g,0,none⟩) i cap (xs.take (i*2)) hold (n+1-i) (by omega) (by omega) (by omega) (by omega) (by rw[hz2];omega) (by rw[hz2,show i+(n+1-i)=n+1 by omega];exact growslice_fits hroom (by omega));rw[show i+(n+1-i)=n+1 by omega,←hG,Array.append_assoc,←hZ]at h;rw[show(n:Int)+1-(i:Int)=((n+1-i:Nat):Int) by omega];exact h
 have hZt:Z.toList.length=(n+1-i)*2+(G-(n+1))*2:=by rw[Array.length_toList];exact hZl
 obtain⟨L0,hL0⟩:∃L0,L0=xs.take (i*2)++Z.toList:=⟨_,rfl⟩
 have hrow0:(xs.take (i*2)).toArray++Z=L0.toArray:=by rw[hL0];apply Array.ext';simp
 rw[hrow0]at hrz
 have hl0:L0.length=G*2:=by rw[hL0,List.length_append,List.length_take,hZt,hxl];omega
 obtain⟨L1,hL1⟩:∃L1,L1=splice L0 (i*2) [.int .i64 k,.int .i64 v]:=⟨_,rfl⟩;obtain⟨L2,hL2⟩:∃L2,L2=splice L1 ((i+1)*2) (xs.drop (i*2)):=⟨_,rfl⟩
 have hl1:L1.length=G*2:=by rw[hL1,splice_len (by rw[hl0];simp;omega),hl0]
 have hl2:L2.length=G*2:=by rw[hL2,splice_len (by rw[List.length_drop,hxl,hl1];omega),hl1]
 have hfin2:L2.take ((n+1)*2)=xs.take (i*2)++([.int .i64 k,.int .i64 v]++xs.drop (i*2)):=by
  have:=ins_grow (xs:=xs) (vs:=[Value.int .i64 k,.int .i64 v]) (d:=i*2) (Z:=Z.toList) hxl (by omega) (by rw[hZt];simp;omega);rw[hL2,hL1,hL0,show(i+1)*2=i*2+[Value.int .i64 k,.int .i64 v].length by simp;omega,show(n+1)*2=n*2+[Value.int .i64 k,.int .i64 v].length by simp;omega];exact this
 obtain⟨N,hN⟩:∃N,N=w.heap.size:=⟨_,rfl⟩;rw[←hN]at hrz;have hHg:∀(q:Nat) (r:Array Value),q<N→(w.drew.alloc (.cells r 87)).heap[q]?=w.heap[q]?:=fun q r hq=>Below.heap_alloc w.drew _ q (show q<w.heap.size by omega)
 have hHN:∀r:Array Value,(w.drew.alloc (.cells r 87)).heap[N]?=some (.cells r 87 (0,0)):=fun r=>by rw[hN];exact Blk.new w.drew 87 r
 have hcpA:∀(W:World),W.heap=(w.drew.alloc (.cells L0.toArray 87)).heap→∀ty dc,(Builtin.copy_ #[31,31] ty #[.slice (some ⟨N,i*2,none⟩) (n+1-i) dc,.slice (some ⟨vb,0,none⟩) 1 1]).run Tryz.prog W= .ok (goInt (Nat.min 1 (n+1-i))) (W.setRow N L1.toArray):=fun W hW ty dc=>by
  rw[hL1]
  have hcell:∀p:Addr,p.block=vb→W.cell? p=w.cell? p:=fun p hp=>by
   have:W.heap[p.block]?=w.heap[p.block]?:=by rw[hW,hHg _ _ (by rw[hp,hN];exact hvlt)]
   unfold World.cell?;rw[this]
  have:=run_copyK W 31 31 ty 87 2 N (i*2) (n+1-i) dc ⟨vb,0,none⟩ 1 1 L0.toArray 87 [.int .i64 k,.int .i64 v] Tryz.underlying31 sz2_PaRow (by rw[hW];exact hHN _) (by simp only[Nat.min_def];split<;>simp<;>omega)
   (rtwo_at (by rw[hcell _ rfl];exact c0) (by rw[hcell _ rfl];exact c1)) (by simp[hl0];omega) rtwo_one
  simpa using this
 have hcpB:∀(W:World),(W.heap[N]?=some (.cells L1.toArray 87 (0,0))∧W.heap[g]?=w.heap[g]?)→∀ty dc sc,(Builtin.copy_ #[31,31] ty #[.slice (some ⟨N,(i+1)*2,none⟩) (n-i) dc,.slice (some ⟨g,i*2,none⟩) (n-i) sc]).run Tryz.prog W= .ok (goInt (Nat.min (n-i) (n-i))) (W.setRow N L2.toArray):=fun W hW ty dc sc=>by
  rw[hL2]
  have:=run_copyK W 31 31 ty 87 2 N ((i+1)*2) (n-i) dc ⟨g,i*2,none⟩ (n-i) sc L1.toArray 87 (xs.drop (i*2)) Tryz.underlying31 sz2_PaRow hW.1 (by rw[List.length_drop,hxl];simp only[Nat.min_def];split<;>omega)
   (hxc W hW.2 (i*2) _ (fun j u hj=>by rw[List.getElem?_drop]at hj;exact hj)) (by rw[List.length_drop,hxl];simp[hl1];omega) (fun v hv=>h1x v (List.mem_of_mem_drop hv))
  simpa using this
 have hmid:∀W:World,W.heap=((w.drew.alloc (.cells L0.toArray 87)).setRow N L1.toArray).heap→W.heap[N]?=some (.cells L1.toArray 87 (0,0))∧∀q,q<N→W.heap[q]?=w.heap[q]?:=fun W hW=>by
  rw[hW];exact⟨setRow_heap _ N _ _ _ _ (hHN _),fun q hq=>by rw[setRow_other _ N q _ (by omega),hHg q _ hq]⟩
 have HFin:=qd (fun(W:World) (hW:W.heap=((w.drew.alloc (.cells L0.toArray 87)).setRow N L1.toArray).heap) (h1:W.os=w.os) (h2:W.tape=w.tape) (h3:W.output=w.output)=>show InsR base n (.slice (some ⟨g,0,none⟩) n cap) (xs.take (i*2)++([.int .i64 k,.int .i64 v]++xs.drop (i*2))) w (.returned (.slice (some ⟨N,0,none⟩) (n+1) G)) (W.setRow N L2.toArray)from by
  have hm:=hmid W hW
  have hsW:W.heap.size=w.heap.size+1:=by rw[hW];simp[World.setRow]
  have hr:=own_setRow (base:=base) (n:=n+1) (cur':=L2.toArray) (xs:=xs.take (i*2)++([.int .i64 k,.int .i64 v]++xs.drop (i*2))) hm.1 (by omega) hGn hG63 (by simpa using hl2) (by simpa using hfin2);refine⟨_,rfl,hr.1,⟨h1,h2,h3,by simp[World.setRow,hsW],fun q hq hn=> ?_⟩,fun q hq=> .inr ?_⟩
  ·rw[setRow_other W N q _ (by omega)];exact hm.2 q (by omega)
  ·have:q=N:=by simpa[Value.ownBlock]using hq
   omega)
 have HMid:=qd hmid
 have mixed:Tryz.prog.follows Departure.mixedOrders=true:=by kernel_rfl
 have hb1:(0:Int)≤(i:Int)+1:=by omega
 have hz2:¬((i:Int)=(n:Int)):=by omega
 have hz3:(cap:Int)<(n:Int)+1:=by omega
 have hw1:IntKind.i64.wrap ((i:Int)+1)=(i:Int)+1:=by rw[IntKind.wrap_i64];omega
 have hw2:IntKind.i64.wrap ((n:Int)+1)=(n:Int)+1:=by rw[IntKind.wrap_i64];omega
 have hin:i≤n:=by omega
 have htn:((i:Int)+1).toNat=i+1:=by omega
 have hb3:(i:Int)≤(n:Int):=by omega
 have hGi:¬(G=i):=by omega
 have hGim:¬(G=i+1):=by omega
 have hci:¬(cap=i):=by omega
 have hgN:g<N:=by omega
 obtain⟨ys,hys⟩:∃ys,ys=xs.take (i*2)++([Value.int .i64 k,.int .i64 v]++xs.drop (i*2)):=⟨_,rfl⟩;rw[←hys]at HFin⊢;clear hys hL0 hL1 hL2 hfin2 hh htk hl0 hl1 hl2 c0 c1 hB ho hmax hsz hZ hZl hold hxc hHg hHN hG hmid hrow0;subst hN;have hT:=fun(ty:TypeId)=>hcpA ((w.alloc (.cells L0.toArray 87)).drew) rfl ty (G-i);have hM3:=HMid.out ((((w.alloc (.cells L0.toArray 87)).drew).setRow w.heap.size L1.toArray).drew) rfl;have hT2:=hcpB ((((w.alloc (.cells L0.toArray 87)).drew).setRow w.heap.size L1.toArray).drew) ⟨hM3.1,hM3.2 g hgN⟩;clear hM3;go_in
 go_upto_region 10 with(at_builtin;refine Lib.wpList_append_run _ rfl _ _ _ _ rfl _ _ rfl rfl _ _ (hrz _) ?_)
 go_wp2_with (at_builtin;refine wpList_copy_runI _ rfl _ _ 31 31 rfl _ _ rfl rfl (hT _) ?_);go_region_law_o (refine step_copy_runI rfl _ _ 31 31 rfl _ _ (by simp[Act.eval,Act.put]) (by simp[Act.eval,Act.put]) (hT2 _ _ _) ?_);go_wp2;go_ret;exact HFin.out _ rfl rfl rfl rfl
theorem pa_search (ho:w.ownsRow base 87 2 (.slice A l.length c) l.length (l.flatMap rowC))(ha:AscP l)(hn:l.length≤100000)(key:Nat):
  Calls Tryz.prog 37 #[.slice A l.length c,.int .i64 (key:Int),.func (.func 38) #[] #[]] w fun y w'=>y= .returned (.tuple #[.int .i64 (lowP l key:Int),.bool (isP l key)])∧Below w.heap.size w w':=by
 have hlow:=lowP_le l key;have HO:=qd ho;have HA:=qd ha;have HB:=qd (Below.refl w.heap.size w);obtain⟨lo,hlo⟩:∃lo,lo=lowP l key:=⟨_,rfl⟩;rw[←hlo]at hlow;have HLo:=qd hlo;obtain⟨is,his⟩:∃is,is=isP l key:=⟨_,rfl⟩;have HIs:=qd his;rw[←hlo,←his];clear ho ha hlo his;go_in;go_wp2;go_loopw [9,10,11] (fun v9 v10 _ wr=>∃i j:Nat,i≤lo∧lo≤j∧j≤l.length∧v9= .int .i64 (i:Int)∧v10= .int .i64 (j:Int)∧Hid (Below w.heap.size w wr)) (fun v9 v10 _ _=>((intOf v10)-(intOf v9)).toNat)
 case atStart=>exact⟨0,l.length,by omega,hlow,by omega,rfl,rfl,HB⟩
 case round=>
  clear HB;obtain⟨i,j,hi,hj,hjl,rfl,rfl,HB⟩:=hrel;by_cases hij:i<j
  ·have hij':(i:Int)<(j:Int):=by omega
   obtain⟨m,hm⟩:∃m,m=(i+j)/2:=⟨_,rfl⟩
   have hw1:IntKind.i64.wrap ((i:Int)+(j:Int))=(i:Int)+(j:Int):=by rw[IntKind.wrap_i64];omega
   have hw2:IntKind.u64.wrap ((i:Int)+(j:Int))=(i:Int)+(j:Int):=by rw[IntKind.wrap_u64];omega
   have hw3:((i:Int)+(j:Int))/2=(m:Int):=by omega
   have hw4:IntKind.i64.wrap (m:Int)=(m:Int):=by rw[IntKind.wrap_i64];omega
   have hw5:IntKind.i64.wrap ((m:Int)+1)=((m+1:Nat):Int):=by rw[IntKind.wrap_i64];omega
   have hml:m<l.length:=by omega
   have hm':(m:Int)<(l.length:Int):=by omega
   have hm0:(0:Int)≤(m:Int):=by omega
   obtain⟨p,hp⟩:∃p,l[m]?=some p:=⟨_,List.getElem?_eq_getElem hml⟩;obtain⟨g,off,hA2,hgl,hc⟩:=(Reads.of_own (own_below HO.out HB.out (Nat.le_refl _))).2 (by omega);have r0:wr.cell? ⟨g,off+m*2,none⟩=some (.int .i64 (p.1:Int)):=hc (m*2+0) _ (rowC_at hp (by omega));have r1:wr.cell? ⟨g,off+m*2+1,none⟩=some (.int .i64 (p.2:Int)):=hc (m*2+1) _ (rowC_at hp (by omega));have HK:=qd (fun(W:World)=>pa_byNumber p key W);have HLt:=qd (show m<lo↔p.1<key from by rw[HLo.out];exact lowP_lt HA.out hp);have HM:=qd (show i≤m∧m<j by omega);clear hc hp hm;subst hA2;go_wp2_with fail;refine(HK.out _).mono ?_;rintro y w2 ⟨rfl,hb2⟩;have HB2:=qd (HB.out.trans (hb2.mono HB.out.size));clear hb2;by_cases hlt:p.1<key
   ·have hcv:cmpKey p.1 key= -1:=by unfold cmpKey;rw[if_pos hlt]
    rw[hcv];have HI:=qd (show m+1≤lo from HLt.out.2 hlt);clear hcv;go_wp2;go_roundw
    all_goals first|exact⟨m+1,j,HI.out,hj,hjl,rfl,rfl,HB2⟩|(simp[intOf];have:=HM.out;omega)
   ·have hcv:(cmpKey p.1 key<0)=False:=by unfold cmpKey;rw[if_neg hlt];split<;>simp
    have hcd:decide (cmpKey p.1 key<0)=false:=decide_eq_false (fun h=>by rw[hcv]at h;exact h);have HI:=qd (show lo≤m from by have:=HLt.out;omega);go_wp2;go_roundw
    all_goals first|exact⟨i,m,hi,HI.out,by omega,rfl,rfl,HB2⟩|(simp[intOf];have:=HM.out;omega)
  ·obtain rfl:i=lo:=by omega
   obtain rfl:j=i:=by omega
   have hni:¬(j:Int)<(j:Int):=by omega
   by_cases hjn:j<l.length
   ·have hj':(j:Int)<(l.length:Int):=by omega
    have hj0:(0:Int)≤(j:Int):=by omega
    obtain⟨p,hp⟩:∃p,l[j]?=some p:=⟨_,List.getElem?_eq_getElem hjn⟩;obtain⟨g,off,hA2,hgl,hc⟩:=(Reads.of_own (own_below HO.out HB.out (Nat.le_refl _))).2 (by omega);have r0:wr.cell? ⟨g,off+j*2,none⟩=some (.int .i64 (p.1:Int)):=hc (j*2+0) _ (rowC_at hp (by omega));have r1:wr.cell? ⟨g,off+j*2+1,none⟩=some (.int .i64 (p.2:Int)):=hc (j*2+1) _ (rowC_at hp (by omega));have HK:=qd (fun(W:World)=>pa_byNumber p key W)
    have HIe:=qd (show is=(cmpKey p.1 key==0)from by
     rw[HIs.out];unfold isP;rw[←HLo.out,hp,Option.any_some];unfold cmpKey;rcases Nat.lt_trichotomy p.1 key with h|h|h
     ·rw[if_pos h];simp;omega
     ·rw[if_neg (by omega),if_neg (by omega)];simp[h]
     ·rw[if_neg (by omega),if_pos h];simp;omega)
    clear hc hp;subst hA2;go_wp2_with fail;refine(HK.out _).mono ?_;rintro y w2 ⟨rfl,hb2⟩;have HB2:=qd (HB.out.trans (hb2.mono HB.out.size));clear hb2;obtain⟨cv,hcv⟩:∃cv,cv=cmpKey p.1 key:=⟨_,rfl⟩;have HC:=qd hcv;rw[←hcv];clear hcv;go_wp2;refine bodyPost_ret (v:= .tuple #[.int .i64 (j:Int),.bool (cv==0)]) (by simp[results,Tryz.results37,go_sem]) rfl ⟨by rw[HIe.out,HC.out],HB2.out⟩
   ·have hj':¬(j:Int)<(l.length:Int):=by omega
    have HIe:=qd (show is=false from by
     rw[HIs.out];unfold isP;rw[←HLo.out,List.getElem?_eq_none (by omega)]
     rfl)
    go_wp2;refine bodyPost_ret (v:= .tuple #[.int .i64 (j:Int),.bool false]) (by simp[results,Tryz.results37,go_sem]) rfl ⟨by rw[HIe.out],HB.out⟩
theorem pa_insert {lo:Nat}{k v:Nat}(ho:w.ownsRow base 87 2 (.slice A l.length c) l.length (l.flatMap rowC))(hB:Blk w vb tv #[.int .i64 (k:Int),.int .i64 (v:Int)])(hne:∀g,(Value.slice A l.length c).ownBlock=some g→vb≠g)(hlo:lo≤l.length)(hn:l.length≤100000)(hbw:base≤w.heap.size):
  Calls Tryz.prog 39 #[.slice A l.length c,.int .i64 (lo:Int),.slice (some ⟨vb,0,none⟩) 1 1] w (InsR base l.length (.slice A l.length c) ((l.take lo++(k,v)::l.drop lo).flatMap rowC) w):=by
 have hxs:(l.take lo++(k,v)::l.drop lo).flatMap rowC=(l.flatMap rowC).take (lo*2)++([.int .i64 (k:Int),.int .i64 (v:Int)]++(l.flatMap rowC).drop (lo*2)):=by
  rw[List.flatMap_append,List.flatMap_cons,rowC_take,rowC_drop];rfl
 rw[hxs];by_cases he:lo=l.length
 ·subst he;have h1:=pinsert_end ho hB hn hbw;rw[List.take_of_length_le (by rw[rowC_length];omega),List.drop_of_length_le (by rw[rowC_length];omega),List.append_nil];exact h1
 ·obtain⟨g,rfl,_,_,hc,_⟩:=own_at0 ho (by omega);by_cases hr:l.length+1≤c
  ·exact pinsert_shift ho hB (hne g rfl) (by omega) hr (rowC_one l)
  ·exact pinsert_grow ho hB (by omega) (by omega) (rowC_one l) hn hbw
end Go.Proofs.YtfbljmcjadfkoaaGreatDoor

/-! Records as rising rows (a number, how often): noting, the greatest, the sum, the number at a rank. Plain, no program in sight. -/
namespace Go.Proofs.YtfbljmcjadfkoaaGreatDoor.AmL
set_option maxRecDepth 100000
set_option maxHeartbeats 4000000
open Go.RowKit Go.Shelf AmC AmL
variable {l : PL}
def noteP (l:PL)(c:Nat):PL:=putP l c ((getP l c).getD 0+1)
def clampP (x:Int):Nat:=(min (max x 0) 1099511627776).toNat
def notesP (xs:List Int):PL:=xs.foldl (fun l x=>noteP l (clampP x)) []
def mostP (l:PL):Nat:=(l.getLast?.map Prod.fst).getD 0
def sumP:PL→Nat→Nat
 | [],s=>s
 |p::r,s=>if 0<p.1∧(1099511627776-s)/p.1<p.2 then 1099511627776 else sumP r (s+p.1*p.2)
def atP:PL→Int→Option Nat
 | [],_=>none
 |p::r,k=>if k-(p.2:Int)≤0 then some p.1 else atP r (k-(p.2:Int))
def mostI (xs:List Int):Int:=xs.foldl (fun m x=>max m (min x 1099511627776)) 0
theorem note_asc (h:AscP l)(c:Nat):AscP (noteP l c):=putP_asc h c _
theorem most_spec (h:AscP l):(∀p∈l,p.1≤mostP l)∧((l=[]∧mostP l=0)∨∃p∈l,p.1=mostP l):=by
 rcases List.eq_nil_or_concat l with rfl|⟨a,q,rfl⟩
 ·exact⟨fun p hp=>(by cases hp),.inl ⟨rfl,rfl⟩⟩
 ·rw[List.concat_eq_append]at*
  have hm:mostP (a++[q])=q.1:=by unfold mostP;simp
  rw[hm];refine⟨fun p hp=> ?_,.inr ⟨q,by simp,rfl⟩⟩;rcases List.mem_append.1 hp with hp|hp
  ·have:=(List.pairwise_append.1 h).2.2 p hp q (by simp);omega
  ·obtain rfl:=List.mem_singleton.1 hp;exact Nat.le_refl _
theorem most_note (h:AscP l)(c:Nat):mostP (noteP l c)=max (mostP l) c:=by
 have h1:=most_spec h;have h2:=most_spec (note_asc h c);have hmem:∀p,p∈noteP l c↔p=(c,(getP l c).getD 0+1)∨(p∈l∧p.1≠c):=fun p=>putP_mem h;have hc:c≤mostP (noteP l c):=h2.1 _ ((hmem _).2 (.inl rfl))
 have hup:mostP (noteP l c)≤max (mostP l) c:=by
  rcases h2.2 with⟨e,_⟩|⟨p,hp,e⟩
  ·have:(c,(getP l c).getD 0+1)∈noteP l c:=(hmem _).2 (.inl rfl);rw[e]at this;cases this
  ·rcases(hmem p).1 hp with rfl|⟨hp,_⟩
   ·have e:c=mostP (noteP l c):=e;omega
   ·have:=h1.1 p hp;omega
 have hlo:mostP l≤mostP (noteP l c):=by
  rcases h1.2 with⟨_,e⟩|⟨p,hp,e⟩
  ·omega
  ·by_cases hpc:p.1=c
   ·omega
   ·have:=h2.1 p ((hmem p).2 (.inr ⟨hp,hpc⟩));omega
 omega
theorem notes_snoc (xs:List Int)(x:Int):notesP (xs++[x])=noteP (notesP xs) (clampP x):=by unfold notesP;rw[List.foldl_append];rfl
theorem mostI_snoc (xs:List Int)(x:Int):mostI (xs++[x])=max (mostI xs) (min x 1099511627776):=by unfold mostI;rw[List.foldl_append];rfl
theorem notes_asc (xs:List Int):AscP (notesP xs):=by
 have:∀(xs:List Int) (l:PL),AscP l→AscP (xs.foldl (fun l x=>noteP l (clampP x)) l):=by
  intro xs
  induction xs with
  |nil=>exact fun l h=>h
  |cons x xs ih=>exact fun l h=>ih _ (note_asc h _)
 exact this xs [] List.Pairwise.nil
theorem notes_most (xs:List Int):(mostP (notesP xs):Int)=mostI xs∧0≤mostI xs∧mostI xs≤1099511627776:=by
 have:∀n,(mostP (notesP (xs.take n)):Int)=mostI (xs.take n)∧0≤mostI (xs.take n)∧mostI (xs.take n)≤1099511627776:=by
  intro n
  induction n with
  |zero=>exact⟨rfl,by show(0:Int)≤0;omega,by show(0:Int)≤_;omega⟩
  |succ n ih=>
   by_cases hn:n<xs.length
   ·rw[List.take_add_one,List.getElem?_eq_getElem hn];show(mostP (notesP (xs.take n++[xs[n]])):Int)=mostI (xs.take n++[xs[n]])∧0≤mostI (xs.take n++[xs[n]])∧mostI (xs.take n++[xs[n]])≤_;rw[notes_snoc,mostI_snoc,most_note (notes_asc _)];unfold clampP;omega
   ·have e:xs.take (n+1)=xs.take n:=by rw[List.take_of_length_le (by omega),List.take_of_length_le (by omega)]
    rw[e];exact ih
 have h:=this xs.length
 rwa [List.take_length]at h
theorem sum_le:∀(l:PL) (s:Nat),s≤1099511627776→sumP l s≤1099511627776
 | [],s,h=>h
 |p::r,s,h=>by
  unfold sumP;split
  ·exact Nat.le_refl _
  ·rename_i hc;refine sum_le r _ ?_;by_cases h0:0<p.1
   ·have h1:p.2≤(1099511627776-s)/p.1:=Nat.le_of_not_lt fun hlt=>hc ⟨h0,hlt⟩;have h2:=Nat.mul_le_mul_left p.1 h1;have h3:=Nat.mul_div_le (1099511627776-s) p.1;omega
   ·have:p.1=0:=by omega
    rw[this];omega
theorem note_bounds (ha:AscP l){c n:Nat}(hc:c≤1099511627776)(h:∀p∈l,p.1≤1099511627776∧p.2≤n):∀p∈noteP l c,p.1≤1099511627776∧p.2≤n+1:=by
 intro p hp;rcases(putP_mem ha).1 hp with rfl|⟨hp,_⟩
 ·refine⟨hc, ?_⟩;show(getP l c).getD 0+1≤n+1
  cases hg:getP l c with
  |none=>simp
  |some v=>
   have:=(h _ ((getP_mem ha).1 hg)).2;simpa using this
 ·have:=h p hp;omega
theorem note_length (ha:AscP l)(c:Nat):(noteP l c).length≤l.length+1:=by
 unfold noteP;rw[putP_length ha]
 split<;>omega
theorem notes_facts (xs:List Int):(notesP xs).length≤xs.length∧∀p∈notesP xs,p.1≤1099511627776∧p.2≤xs.length:=by
 have:∀n,(notesP (xs.take n)).length≤n∧∀p∈notesP (xs.take n),p.1≤1099511627776∧p.2≤n:=by
  intro n
  induction n with
  |zero=>exact⟨Nat.le_refl _,fun p hp=>(by cases hp)⟩
  |succ n ih=>
   by_cases hn:n<xs.length
   ·have e:notesP (xs.take (n+1))=noteP (notesP (xs.take n)) (clampP xs[n]):=by
     rw[List.take_add_one,List.getElem?_eq_getElem hn];exact notes_snoc _ _
    rw[e];have h1:=note_length (notes_asc (xs.take n)) (clampP xs[n]);exact⟨by omega,note_bounds (notes_asc _) (by unfold clampP;omega) ih.2⟩
   ·have e:xs.take (n+1)=xs.take n:=by rw[List.take_of_length_le (by omega),List.take_of_length_le (by omega)]
    rw[e];exact⟨by omega,fun p hp=>by have:=ih.2 p hp;omega⟩
 have h:=this xs.length
 rwa [List.take_length]at h
end Go.Proofs.YtfbljmcjadfkoaaGreatDoor.AmL
