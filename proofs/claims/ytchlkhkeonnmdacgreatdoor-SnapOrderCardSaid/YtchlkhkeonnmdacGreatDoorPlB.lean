/- A function as a rising row of pairs: its block, its row; a key found by halves. No statement of the claim. -/
import Derived.Test.YtchlkhkeonnmdacGreatDoorPlC
import Derived.Test.YtchlkhkeonnmdacGreatDoorLaneP
import Derived.Test.YtchlkhkeonnmdacGreatDoorCoS
import Derived.Lib.Overlaps
import Derived.Lib.AppendZeros
import Derived.Lib.AppendZerosOnto
import Derived.Lib.SliceRun
import Derived.Laws.NewBlocks
import Derived.Laws.Externs
import Derived.Deep.LoopGhost
namespace Go.Proofs.YtchlkhkeonnmdacGreatDoor
set_option maxRecDepth 100000
set_option maxHeartbeats 4000000
open Go.RowKit AmC AmL Go.Shelf
section
def pairC (p:Nat×Nat):List Value:=[.int .u64 (p.1:Int),.int .u64 (p.2:Int)]
theorem pairC_at {p:Nat×Nat}{q:Nat}:∀{l:PL} {i:Nat},l[i]?=some p→q<2→(l.flatMap pairC)[i*2+q]?=some ((pairC p)[q]!)
 | [],_,h,_=>by simp at h
 |x::l,0,h,hq=>by
  obtain rfl:=Option.some.inj h;rw[List.flatMap_cons,List.getElem?_append_left (by simp[pairC];omega)]
  have:q=0∨q=1:=by omega
  rcases this with rfl|rfl<;>rfl
 |x::l,i+1,h,hq=>by
  rw[List.flatMap_cons,List.getElem?_append_right (by simp[pairC];omega)];have:=pairC_at (l:=l) (i:=i) h hq;rw[show(i+1)*2+q-(pairC x).length=i*2+q by simp[pairC];omega];exact this
theorem pairC_length (l:PL):(l.flatMap pairC).length=l.length*2:=by
 induction l with
 |nil=>rfl
 |cons x l ih=>rw[List.flatMap_cons,List.length_append,ih,List.length_cons];simp[pairC];omega
theorem pairC_one (l:PL):∀v∈l.flatMap pairC,v.oneCell'=true:=by
 intro v hv;obtain⟨p,_,hp⟩:=List.mem_flatMap.1 hv;simp only[pairC,List.mem_cons,List.not_mem_nil,or_false]at hp
 rcases hp with rfl|rfl<;>rfl
theorem pairC_take (l:PL)(i:Nat):(l.flatMap pairC).take (i*2)=(l.take i).flatMap pairC:=by
 by_cases hi:i≤l.length
 ·have h:=congrArg (List.flatMap pairC) (List.take_append_drop i l);rw[List.flatMap_append]at h;rw[←h,List.take_append_of_le_length (by rw[pairC_length,List.length_take];omega),List.take_of_length_le (by rw[pairC_length,List.length_take];omega)]
 ·rw[List.take_of_length_le (by rw[pairC_length];omega),List.take_of_length_le (by omega)]
theorem pairC_drop (l:PL)(i:Nat):(l.flatMap pairC).drop (i*2)=(l.drop i).flatMap pairC:=by
 have h:=congrArg (List.flatMap pairC) (List.take_append_drop i l);rw[List.flatMap_append]at h;by_cases hi:i≤l.length
 ·rw[←h,List.drop_append_of_le_length (by rw[pairC_length,List.length_take];omega),List.drop_of_length_le (by rw[pairC_length,List.length_take];omega),List.nil_append]
 ·rw[List.drop_of_length_le (by rw[pairC_length];omega),List.drop_of_length_le (by omega)];rfl
theorem pairC_set {l:PL}{i:Nat}(h:i<l.length)(k v:Nat)(hk:(l[i]?).map Prod.fst=some k):(l.flatMap pairC).set (i*2+1) (.int .u64 (v:Int))=(l.set i (k,v)).flatMap pairC:=by
 induction l generalizing i with
 |nil=>simp at h
 |cons x l ih=>
  cases i with
  |zero=>
   have:x.1=k:=by simpa using hk
   simp[pairC,this]
  |succ i=>
   rw[List.set_cons_succ,List.flatMap_cons,List.flatMap_cons,←ih (by simpa using h) (by simpa using hk),List.set_append_right _ _ (by simp[pairC];omega)];congr 2;simp[pairC];omega
theorem info_PlPair:(Tryz.prog.info? 29).map (fun i=>(i.zero,i.size,i.bytes))=some (some (.agg #[.int .u64 0,.int .u64 0]),2,16):=by kernel_rfl
theorem slty_PlPair:SlTy Tryz.prog 22 29 2 16:=slTy Tryz.underlying22 info_PlPair rfl (by decide) (by decide)
def PlF (base:Nat)(w:World)(fb most:Nat)(F:List Nat)(l:PL):Prop:=
 ∃v,Blk w fb 49 #[.int .i64 (most:Int),v]∧w.ownsRow base 29 2 v l.length (l.flatMap pairC)∧F=fb::v.ownBlock.toList∧base≤fb∧AscP l
def PlTo (base:Nat)(w w':World)(fb most:Nat)(F:List Nat)(l:PL):Prop:=
 ∃F',PlF base w' fb most F' l∧(∀q∈F',q∈F∨w.heap.size≤q)∧Mod F w w'
theorem own_typ {w:World}{base n g sz:Nat}{e t:TypeId}{v:Value}{xs:List Value}{cs:Array Value}(h:w.ownsRow base e sz v n xs)(hB:Blk w g t cs)(ht:t≠e):g∉v.ownBlock.toList:=by
 intro hg
 have hg':v.ownBlock=some g:=by simpa using hg
 rcases h.2 with⟨rfl,_⟩|⟨g',cap,cur,rfl,_,hh,_⟩
 ·cases hg'
 ·have:g'=g:=by simpa[Value.ownBlock]using hg'
  subst this;have h1:w.heap[g']?=some (.cells cs t (0,0)):=hB;rw[hh]at h1
  injection h1 with h1
  injection h1 with _ h1 _
  exact ht h1.symm
section
variable {base most fb n : Nat} {w w' : World} {F S : List Nat} {l l' : PL}
theorem PlF.lts (h:PlF base w fb most F l):∀q∈F,q<w.heap.size∧base≤q:=by
 obtain⟨v,h1,h2,rfl,h3,_⟩:=h;intro q hq;rcases List.mem_cons.1 hq with rfl|hq
 ·exact⟨h1.lt,h3⟩
 ·have:=h2.lt q (by simpa using hq);exact⟨this.2,this.1⟩
theorem PlF.mod (h:PlF base w fb most F l)(hm:Mod S w w')(hS:∀q∈S,q∉F):PlF base w' fb most F l:=by
 obtain⟨v,h1,h2,rfl,h3⟩:=h;refine⟨v,h1.mod hm (fun hq=>hS fb hq (by simp)),⟨h2.1, ?_⟩,rfl,h3⟩;rcases h2.2 with k|⟨g,cap,cur,rfl,k2,k3,k4⟩
 ·exact .inl k
 ·refine .inr ⟨g,cap,cur,rfl,k2, ?_,k4⟩;rw[hm.block g (Array.getElem?_eq_some_iff.1 k3).1 (fun hq=>hS g hq (by simp[Value.ownBlock]))];exact k3
theorem PlF.below (h:PlF base w fb most F l)(hb:Below w.heap.size w w'):PlF base w' fb most F l:=h.mod (Mod.of_below hb []) (by simp)
theorem PlF.asc (h:PlF base w fb most F l):AscP l:=by
 obtain⟨v,_,_,_,_,h⟩:=h;exact h
end
def cmpKey (a b:Nat):Int:=if a<b then-1 else if b<a then 1 else 0
theorem isNaN_key (x:Int)(w:World):Calls Tryz.prog 106 #[.int .u64 x] w fun y w'=>y= .returned (.bool false)∧w=w':=by
 go_in;go_wp2;go_ret;exact⟨by simp,rfl⟩
theorem compare_key (a b:Nat)(w:World):Calls Tryz.prog 69 #[.int .u64 (a:Int),.int .u64 (b:Int)] w fun e w'=>e= .returned (.int .i64 (cmpKey a b))∧w=w':=by
 have HN:=qd (fun(z:Int) (W:World)=>isNaN_key z W);obtain⟨v,hv⟩:∃v,v=cmpKey a b:=⟨_,rfl⟩;rw[←hv];rcases Nat.lt_trichotomy a b with h|h|h
 ·have h1:(a:Int)<(b:Int):=by omega
  obtain rfl:v= -1:=by rw[hv];unfold cmpKey;rw[if_pos h]
  clear hv h;go_in;go_wp2_with fail;refine(HN.out _ _).mono ?_;rintro e wq ⟨rfl,rfl⟩;go_wp2_with fail;refine(HN.out _ _).mono ?_;rintro e wq ⟨rfl,rfl⟩;go_wp2;go_ret;exact⟨rfl,rfl⟩
 ·subst h
  obtain rfl:v=0:=by rw[hv];unfold cmpKey;simp
  clear hv;go_in;go_wp2_with fail;refine(HN.out _ _).mono ?_;rintro e wq ⟨rfl,rfl⟩;go_wp2_with fail;refine(HN.out _ _).mono ?_;rintro e wq ⟨rfl,rfl⟩;go_wp2;go_ret;exact⟨rfl,rfl⟩
 ·have h1:¬(a:Int)<(b:Int):=by omega
  have h2:(b:Int)<(a:Int):=by omega
  obtain rfl:v=1:=by rw[hv];unfold cmpKey;rw[if_neg (by omega),if_pos h]
  clear hv h;go_in;go_wp2_with fail;refine(HN.out _ _).mono ?_;rintro e wq ⟨rfl,rfl⟩;go_wp2_with fail;refine(HN.out _ _).mono ?_;rintro e wq ⟨rfl,rfl⟩;go_wp2;go_ret;exact⟨rfl,rfl⟩
theorem pl_byKey (p:Nat×Nat)(key:Nat)(w:World):Calls Tryz.prog 38 #[.agg #[.int .u64 (p.1:Int),.int .u64 (p.2:Int)],.int .u64 (key:Int)] w fun e w'=>e= .returned (.int .i64 (cmpKey p.1 key))∧Below w.heap.size w w':=by
 have HC:=qd (fun(W:World)=>compare_key p.1 key W);go_in;go_wp2_with fail;refine(HC.out _).mono ?_;rintro e wq ⟨rfl,rfl⟩;go_wp2;go_ret;exact⟨rfl,(Below.refl w.heap.size w).alloc (Nat.le_refl _) _⟩
end
section
variable {k v : Int} {base c g i n vb : Nat} {w : World} {xs : List Value} {tv : TypeId}
theorem size_PlPair (w:World):(Go.sizeOf 29).run Tryz.prog w= .ok 2 w:=by kernel_rfl
theorem sz2_PlPair:(Tryz.prog.info? 29).map (·.size)=some 2:=by kernel_rfl
theorem two_one:∀x∈[Value.int .u64 k,Value.int .u64 v],x.oneCell'=true:=by
 intro x hx;simp only[List.mem_cons,List.not_mem_nil,or_false]at hx
 rcases hx with rfl|rfl<;>rfl
theorem two_at (c0:w.cell? ⟨vb,0,none⟩=some (.int .u64 k))(c1:w.cell? ⟨vb,1,none⟩=some (.int .u64 v)):∀(j:Nat) (u:Value),[Value.int .u64 k,Value.int .u64 v][j]?=some u→w.cell? ((⟨vb,0,none⟩:Addr).add j)=some u:=by
 intro j u hj
 have hadd:(⟨vb,0,none⟩:Addr).add j=⟨vb,j,none⟩:=by unfold Addr.add;split<;>simp_all
 rw[hadd]
 match j,hj with
 |0,hj=>obtain rfl:=Option.some.inj hj;exact c0
 |1,hj=>obtain rfl:=Option.some.inj hj;exact c1
 |j+2,hj=>simp at hj
def InsP (base n:Nat)(v0:Value)(xs:List Value)(w:World)(e:Ending)(w':World):Prop:=
 ∃v',e= .returned v'∧w'.ownsRow base 29 2 v' (n+1) xs∧Mod v0.ownBlock.toList w w'∧∀q∈v'.ownBlock.toList,q∈v0.ownBlock.toList∨w.heap.size≤q
theorem insert_end {A:Option Addr}(ho:w.ownsRow base 29 2 (.slice A n c) n xs)(hB:Blk w vb tv #[.int .u64 k,.int .u64 v])(hn:n≤100000)(hbw:base≤w.heap.size):
  Calls Tryz.prog 16 #[.slice A n c,.int .i64 (n:Int),.slice (some ⟨vb,0,none⟩) 1 1] w (InsP base n (.slice A n c) (xs++[.int .u64 k,.int .u64 v]) w):=by
 obtain⟨c0,c1⟩:=hB.c2;have HA:=qd (two_at c0 c1);have HO:=qd ho;obtain⟨i0,hi0,hz0,hz1,hz2⟩:=info_parts info_PlPair;have HI:=qd (And.intro hi0 (And.intro hz0 (And.intro hz1 hz2)));have hcap:=own_caps ho;clear ho hB hi0 hz0 hz1 hz2 c0 c1
 have hfin:∀v' w1,w1.ownsRow base 29 2 v' (n+1) (xs++[.int .u64 k,.int .u64 v])→w.grownBy w1 (Value.slice A n c).ownBlock→(v'.ownBlock=(Value.slice A n c).ownBlock∨v'.ownBlock=some w.heap.size)→InsP base n (.slice A n c) (xs++[.int .u64 k,.int .u64 v]) w (.returned v') w1:=by
  intro v' w1 hown hg hat;refine⟨v',rfl,hown,⟨hg.os,hg.tape,hg.output,hg.size,fun q hq hne=>hg.block q hq (fun e=>hne (by simp[e]))⟩,fun q hq=> ?_⟩;rcases hat with hat|hat
  ·exact .inl (by rw[←hat];exact hq)
  ·refine .inr ?_;rw[hat]at hq
   have:q=w.heap.size:=by simpa using hq
   omega
 have HFin:=qd hfin;clear hfin;rcases hcap with⟨rfl,rfl,rfl⟩|⟨g,rfl,_⟩
 ·go_in;go_wp2_with (at_builtin;refine wpList_append_own_at _ rfl _ _ 22 rfl base 29 i0 _ 2 16 Tryz.underlying22 HI.out.1 HI.out.2.1 HI.out.2.2.1 HI.out.2.2.2 rfl (by omega) _ _ _ rfl HO.out ⟨vb,0,none⟩ 1 1 [.int .u64 k,.int .u64 v] rfl rfl HA.out two_one (by simp[maxLen]) (by omega) hbw ?_;intro v' w1 hown hg _ hat;have HP:=qd (HFin.out v' w1 hown hg hat);clear hown hg hat);go_ret;exact HP.out
 ·go_in;go_wp2_with (at_builtin;refine wpList_append_own_at _ rfl _ _ 22 rfl base 29 i0 _ 2 16 Tryz.underlying22 HI.out.1 HI.out.2.1 HI.out.2.2.1 HI.out.2.2.2 rfl (by omega) _ _ _ rfl HO.out ⟨vb,0,none⟩ 1 1 [.int .u64 k,.int .u64 v] rfl rfl HA.out two_one (by simp[maxLen];omega) (by omega) hbw ?_;intro v' w1 hown hg _ hat;have HP:=qd (HFin.out v' w1 hown hg hat);clear hown hg hat)
  all_goals go_ret
  all_goals exact HP.out
theorem insert_shift (ho:w.ownsRow base 29 2 (.slice (some ⟨g,0,none⟩) n c) n xs)(hB:Blk w vb tv #[.int .u64 k,.int .u64 v])(hne:vb≠g)(hi:i<n)(hroom:n+1≤c)(h1x:∀v∈xs,v.oneCell'=true):
  Calls Tryz.prog 16 #[.slice (some ⟨g,0,none⟩) n c,.int .i64 (i:Int),.slice (some ⟨vb,0,none⟩) 1 1] w (InsP base n (.slice (some ⟨g,0,none⟩) n c) (xs.take (i*2)++([.int .u64 k,.int .u64 v]++xs.drop (i*2))) w):=by
 obtain⟨c0,c1⟩:=hB.c2;have hvlt:=hB.lt;have hBh:w.heap[vb]?=some (.cells #[.int .u64 k,.int .u64 v] tv (0,0)):=hB;have hxl:=ho.1
 obtain⟨cap,cur,hbg,hh,hcc,hmax,hsz,htk,rfl⟩:∃cap cur,base≤g∧w.heap[g]?=some (.cells cur 29 (0,0))∧n≤cap∧cap≤maxLen∧cur.size=cap*2∧cur.toList.take (n*2)=xs∧cap=c:=by
  rcases ho.2 with⟨h,_⟩|⟨g',cap,cur,hv,h1,h2,h3,h4,h5,h6⟩
  ·cases h
  ·injection hv with hv _ hc
   injection hv with hv
   injection hv with hv _ _
   subst hv;exact⟨cap,cur,h1,h2,h3,h4,h5,h6,hc.symm⟩
 obtain⟨L1,hL1⟩:∃L1,L1=splice cur.toList ((i+1)*2) (xs.drop (i*2)):=⟨_,rfl⟩;obtain⟨L2,hL2⟩:∃L2,L2=splice L1 (i*2) [.int .u64 k,.int .u64 v]:=⟨_,rfl⟩
 have hl1:L1.length=cap*2:=by rw[hL1,splice_len (by rw[List.length_drop,hxl,Array.length_toList];omega),Array.length_toList,hsz]
 have hl2:L2.length=cap*2:=by rw[hL2,splice_len (by rw[hl1];simp;omega),hl1]
 have hfin2:L2.take ((n+1)*2)=xs.take (i*2)++([.int .u64 k,.int .u64 v]++xs.drop (i*2)):=by
  have:=ins_shift (L:=cur.toList) (vs:=[Value.int .u64 k,.int .u64 v]) (d:=i*2) htk (by omega) (by rw[Array.length_toList];simp;omega);rw[hL2,hL1,show(i+1)*2=i*2+[Value.int .u64 k,.int .u64 v].length by simp;omega,show(n+1)*2=n*2+[Value.int .u64 k,.int .u64 v].length by simp;omega];exact this
 have hgl:g<w.heap.size:=(Array.getElem?_eq_some_iff.1 hh).1;obtain⟨W1,hW1⟩:∃W1,W1=w.drew.setRow g L1.toArray:=⟨_,rfl⟩
 have hW1g:W1.heap[g]?=some (.cells L1.toArray 29 (0,0)):=by rw[hW1];exact setRow_heap w.drew g cur _ _ _ hh
 have hcp1:∀ty dc sc,(Builtin.copy_ #[22,22] ty #[.slice (some ⟨g,(i+1)*2,none⟩) (n-i) dc,.slice (some ⟨g,i*2,none⟩) (n+1-i) sc]).run Tryz.prog w.drew= .ok (goInt (Nat.min (n+1-i) (n-i))) W1:=fun ty dc sc=>by
  rw[hW1,hL1];refine run_copyK w.drew _ _ ty 29 2 g ((i+1)*2) (n-i) dc ⟨g,i*2,none⟩ (n+1-i) sc cur 29 (xs.drop (i*2)) Tryz.underlying22 sz2_PlPair hh ?_ ?_ ?_ ?_
  ·rw[List.length_drop,hxl];simp only[Nat.min_def];split<;>omega
  ·intro j u hj
   have hadd:(⟨g,i*2,none⟩:Addr).add j=⟨g,i*2+j,none⟩:=by unfold Addr.add;split<;>simp_all
   rw[hadd];show(match w.heap[g]? with|some (.cells cs _ _)=>cs[i*2+j]?|_=>none)=_;rw[hh];rw[List.getElem?_drop,←htk,List.getElem?_take]at hj;split at hj
   ·simpa using hj
   ·cases hj
  ·rw[List.length_drop,hxl,hsz];omega
  ·exact fun v hv=>h1x v (List.mem_of_mem_drop hv)
 have hcp2:∀(W:World),W.heap=W1.heap→∀ty dc,(Builtin.copy_ #[22,22] ty #[.slice (some ⟨g,i*2,none⟩) (n+1-i) dc,.slice (some ⟨vb,0,none⟩) 1 1]).run Tryz.prog W= .ok (goInt (Nat.min 1 (n+1-i))) (W.setRow g L2.toArray):=fun W hW ty dc=>by
  rw[hL2]
  have hcell:∀p:Addr,p.block=vb→W.cell? p=w.cell? p:=fun p hp=>by
   have:W.heap[p.block]?=w.heap[p.block]?:=by
    rw[hW,hW1,setRow_other w.drew g p.block _ (by rw[hp];exact hne)];rfl
   unfold World.cell?;rw[this]
  have:=run_copyK W 22 22 ty 29 2 g (i*2) (n+1-i) dc ⟨vb,0,none⟩ 1 1 L1.toArray 29 [.int .u64 k,.int .u64 v] Tryz.underlying22 sz2_PlPair (by rw[hW];exact hW1g) (by simp only[Nat.min_def];split<;>simp<;>omega)
   (two_at (by rw[hcell _ rfl];exact c0) (by rw[hcell _ rfl];exact c1)) (by simp[hl1];omega) two_one
  simpa using this
 have hov:∀lb cb,(callFunc 39 #[.slice (some ⟨vb,0,none⟩) 1 1,.slice (some ⟨g,(i+1)*2,none⟩) lb cb]).run Tryz.prog w= .ok (.value (.bool false)) w:=fun lb cb=>by
  rw[run_callFunc_extern Tryz.func39 (by kernel_rfl) (by kernel_rfl) (by kernel_rfl) (e:=Extern.SlicesOverlaps.overlaps #[22,22] #[4]) (by kernel_rfl),
   Lib.run_overlaps_apart w 22 4 29 Tryz.underlying22 2 size_PlPair ⟨vb,0,none⟩ ⟨g,(i+1)*2,none⟩ 1 1 lb cb hne tv 29 2 (cap*2) (by simp[World.shape?,hBh]) (by simp[World.shape?,hh,hsz]) (by omega) (by simp[World.frozen?,hBh]) (by simp[World.frozen?,hBh])]
  rfl
 have HFin:=qd (fun(W:World) (hW:W.heap=W1.heap) (h1:W.os=w.os) (h2:W.tape=w.tape) (h3:W.output=w.output)=>show InsP base n (.slice (some ⟨g,0,none⟩) n cap) (xs.take (i*2)++([.int .u64 k,.int .u64 v]++xs.drop (i*2))) w (.returned (.slice (some ⟨g,0,none⟩) (n+1) cap)) (W.setRow g L2.toArray)from by
  have hr:=own_setRow (n:=n+1) (cur':=L2.toArray) (xs:=xs.take (i*2)++([.int .u64 k,.int .u64 v]++xs.drop (i*2))) (show W.heap[g]?=_ by rw[hW];exact hW1g) hbg hroom hmax (by simpa using hl2) (by simpa using hfin2);refine⟨_,rfl,hr.1,⟨h1,h2,h3,by simp[World.setRow,hW,hW1],fun q hq hn=> ?_⟩,fun q hq=> .inl hq⟩;have hqg:q≠g:=fun e=>hn (by simp[Value.ownBlock,e]);rw[setRow_other W g q _ hqg,hW,hW1,setRow_other w.drew g q _ hqg]
  rfl)
 have mixed:Tryz.prog.follows Departure.mixedOrders=true:=by kernel_rfl
 have hb1:(0:Int)≤(i:Int)+1:=by omega
 have hz2:¬((i:Int)=(n:Int)):=by omega
 have hw1:IntKind.i64.wrap ((i:Int)+1)=(i:Int)+1:=by rw[IntKind.wrap_i64];unfold maxLen at hmax;omega
 have hw2:IntKind.i64.wrap ((n:Int)+1)=(n:Int)+1:=by rw[IntKind.wrap_i64];unfold maxLen at hmax;omega
 have hin:i≤n:=by omega
 have htn:((i:Int)+1).toNat=i+1:=by omega
 have htn2:((n:Int)+1).toNat=n+1:=by omega
 have hb2:¬(cap=i+1):=by omega
 have hb3:(i:Int)≤(n:Int)+1:=by omega
 have hb4:¬(cap=i):=by omega
 have hE:∀(W:World),W.heap=W1.heap→W.os=w.os→W.tape=w.tape→W.output=w.output→True:=fun _ _ _ _ _=>trivial;obtain⟨ys,hys⟩:∃ys,ys=xs.take (i*2)++([Value.int .u64 k,.int .u64 v]++xs.drop (i*2)):=⟨_,rfl⟩;rw[←hys]at HFin⊢;clear hys hL1 hL2 hfin2 hW1g hh htk hl1 hl2 c0 c1 hB ho hE hmax hsz;go_in;go_wp2_with (simp only[hov]);go_region_law_o (refine step_copy_runI rfl _ _ 22 22 rfl _ _ (by simp[Act.eval,Act.put]) (by simp[Act.eval,Act.put]) (hcp1 _ _ _) ?_);go_wp2_with (at_builtin;refine wpList_copy_runI _ rfl _ _ 22 22 rfl _ _ rfl rfl (hcp2 _ rfl _ _) ?_);go_ret;subst hW1;exact HFin.out _ rfl rfl rfl rfl
theorem insert_grow (ho:w.ownsRow base 29 2 (.slice (some ⟨g,0,none⟩) n c) n xs)(hB:Blk w vb tv #[.int .u64 k,.int .u64 v])(hi:i<n)(hroom:c<n+1)(h1x:∀v∈xs,v.oneCell'=true)(hn:n≤100000)(hbw:base≤w.heap.size):
  Calls Tryz.prog 16 #[.slice (some ⟨g,0,none⟩) n c,.int .i64 (i:Int),.slice (some ⟨vb,0,none⟩) 1 1] w (InsP base n (.slice (some ⟨g,0,none⟩) n c) (xs.take (i*2)++([.int .u64 k,.int .u64 v]++xs.drop (i*2))) w):=by
 obtain⟨c0,c1⟩:=hB.c2;have hvlt:=hB.lt;have hBh:w.heap[vb]?=some (.cells #[.int .u64 k,.int .u64 v] tv (0,0)):=hB;have hxl:=ho.1
 obtain⟨cap,cur,hbg,hh,hcc,hmax,hsz,htk,rfl⟩:∃cap cur,base≤g∧w.heap[g]?=some (.cells cur 29 (0,0))∧n≤cap∧cap≤maxLen∧cur.size=cap*2∧cur.toList.take (n*2)=xs∧cap=c:=by
  rcases ho.2 with⟨h,_⟩|⟨g',cap,cur,hv,h1,h2,h3,h4,h5,h6⟩
  ·cases h
  ·injection hv with hv _ hc
   injection hv with hv
   injection hv with hv _ _
   subst hv;exact⟨cap,cur,h1,h2,h3,h4,h5,h6,hc.symm⟩
 have hgl:g<w.heap.size:=(Array.getElem?_eq_some_iff.1 hh).1;obtain⟨i0,hi0,hz0,hz1,hz2⟩:=info_parts info_PlPair
 have hxc:∀(W:World) (hW:W.heap[g]?=w.heap[g]?) (d:Nat) (ys:List Value),(∀j u,ys[j]?=some u→xs[d+j]?=some u)→∀(j:Nat) (u:Value),ys[j]?=some u→W.cell? ((⟨g,d,none⟩:Addr).add j)=some u:=by
  intro W hW d ys hys j u hj
  have hadd:(⟨g,d,none⟩:Addr).add j=⟨g,d+j,none⟩:=by unfold Addr.add;split<;>simp_all
  rw[hadd];show(match W.heap[g]? with|some (.cells cs _ _)=>cs[d+j]?|_=>none)=_;rw[hW,hh];have h:=hys j u hj;rw[←htk,List.getElem?_take]at h;split at h
  ·simpa using h
  ·cases h
 have hold:(Builtin.firstCells i0.size i (.slice (some ⟨g,0,none⟩) i cap)).run Tryz.prog w.drew= .ok (xs.take (i*2)).toArray w.drew:=by
  rw[hz1]
  exact run_firstCells_some w.drew 2 i ⟨g,0,none⟩ i cap (xs.take (i*2)) (by rw[List.length_take];omega) (hxc w.drew rfl 0 _ (fun j u hj=>by
   rw[List.getElem?_take]at hj;split at hj
   ·rw[Nat.zero_add];exact hj
   ·cases hj))
 obtain⟨G,hG⟩:∃G,G=grownCap w (n+1) cap 29 :=⟨_,rfl⟩;obtain⟨Z,hZ⟩:∃Z:Array Value,Z=Builtin.zeroCells (Value.agg #[.int .u64 0,.int .u64 0]).cells (n+1-i)++Builtin.zeroCells (Value.agg #[.int .u64 0,.int .u64 0]).cells (G-(n+1)):=⟨_,rfl⟩
 have hGn:n+1≤G:=by rw[hG];exact grownCap_ge w _ _ _
 have hG63:G≤maxLen:=by
  rw[hG];exact grownCap_le_maxLen w (n+1) cap 29 (by unfold maxLen;omega)
 have hZl:Z.size=(n+1-i)*2+(G-(n+1))*2:=by
  rw[hZ];simp[Builtin.zeroCells,Value.cells]
 have hrz:∀ty,(Builtin.append_ #[22,3] ty #[.slice (some ⟨g,0,none⟩) i cap,.int .i64 ((n:Int)+1-(i:Int))]).run Tryz.prog w=
   .ok (.slice (some ⟨w.heap.size,0,none⟩) (n+1) G) (w.drew.alloc (.cells ((xs.take (i*2)).toArray++Z) 29)):=fun ty=>by
  have h:=Lib.run_append_grow_zeros w 22 3 ty 29 i0 _ .i64 .i64 Tryz.underlying22 Tryz.underlying3 hi0 hz0 (some ⟨g,0,none⟩) i cap (xs.take (i*2)) hold (n+1-i) (by omega) (by omega) (by omega) (by omega) (by rw[hz2];omega) (by rw[hz2,show i+(n+1-i)=n+1 by omega];exact growslice_fits hroom (by omega));rw[show i+(n+1-i)=n+1 by omega,←hG,Array.append_assoc,←hZ]at h;rw[show(n:Int)+1-(i:Int)=((n+1-i:Nat):Int) by omega];exact h
 have hZt:Z.toList.length=(n+1-i)*2+(G-(n+1))*2:=by rw[Array.length_toList];exact hZl
 obtain⟨L0,hL0⟩:∃L0,L0=xs.take (i*2)++Z.toList:=⟨_,rfl⟩
 have hrow0:(xs.take (i*2)).toArray++Z=L0.toArray:=by rw[hL0];apply Array.ext';simp
 rw[hrow0]at hrz
 have hl0:L0.length=G*2:=by rw[hL0,List.length_append,List.length_take,hZt,hxl];omega
 obtain⟨L1,hL1⟩:∃L1,L1=splice L0 (i*2) [.int .u64 k,.int .u64 v]:=⟨_,rfl⟩;obtain⟨L2,hL2⟩:∃L2,L2=splice L1 ((i+1)*2) (xs.drop (i*2)):=⟨_,rfl⟩
 have hl1:L1.length=G*2:=by rw[hL1,splice_len (by rw[hl0];simp;omega),hl0]
 have hl2:L2.length=G*2:=by rw[hL2,splice_len (by rw[List.length_drop,hxl,hl1];omega),hl1]
 have hfin2:L2.take ((n+1)*2)=xs.take (i*2)++([.int .u64 k,.int .u64 v]++xs.drop (i*2)):=by
  have:=ins_grow (xs:=xs) (vs:=[Value.int .u64 k,.int .u64 v]) (d:=i*2) (Z:=Z.toList) hxl (by omega) (by rw[hZt];simp;omega);rw[hL2,hL1,hL0,show(i+1)*2=i*2+[Value.int .u64 k,.int .u64 v].length by simp;omega,show(n+1)*2=n*2+[Value.int .u64 k,.int .u64 v].length by simp;omega];exact this
 obtain⟨N,hN⟩:∃N,N=w.heap.size:=⟨_,rfl⟩;rw[←hN]at hrz;have hHg:∀(q:Nat) (r:Array Value),q<N→(w.drew.alloc (.cells r 29)).heap[q]?=w.heap[q]?:=fun q r hq=>Below.heap_alloc w.drew _ q (show q<w.heap.size by omega)
 have hHN:∀r:Array Value,(w.drew.alloc (.cells r 29)).heap[N]?=some (.cells r 29 (0,0)):=fun r=>by rw[hN];exact Blk.new w.drew 29 r
 have hcpA:∀(W:World),W.heap=(w.drew.alloc (.cells L0.toArray 29)).heap→∀ty dc,(Builtin.copy_ #[22,22] ty #[.slice (some ⟨N,i*2,none⟩) (n+1-i) dc,.slice (some ⟨vb,0,none⟩) 1 1]).run Tryz.prog W= .ok (goInt (Nat.min 1 (n+1-i))) (W.setRow N L1.toArray):=fun W hW ty dc=>by
  rw[hL1]
  have hcell:∀p:Addr,p.block=vb→W.cell? p=w.cell? p:=fun p hp=>by
   have:W.heap[p.block]?=w.heap[p.block]?:=by rw[hW,hHg _ _ (by rw[hp,hN];exact hvlt)]
   unfold World.cell?;rw[this]
  have:=run_copyK W 22 22 ty 29 2 N (i*2) (n+1-i) dc ⟨vb,0,none⟩ 1 1 L0.toArray 29 [.int .u64 k,.int .u64 v] Tryz.underlying22 sz2_PlPair (by rw[hW];exact hHN _) (by simp only[Nat.min_def];split<;>simp<;>omega)
   (two_at (by rw[hcell _ rfl];exact c0) (by rw[hcell _ rfl];exact c1)) (by simp[hl0];omega) two_one
  simpa using this
 have hcpB:∀(W:World),(W.heap[N]?=some (.cells L1.toArray 29 (0,0))∧W.heap[g]?=w.heap[g]?)→∀ty dc sc,(Builtin.copy_ #[22,22] ty #[.slice (some ⟨N,(i+1)*2,none⟩) (n-i) dc,.slice (some ⟨g,i*2,none⟩) (n-i) sc]).run Tryz.prog W= .ok (goInt (Nat.min (n-i) (n-i))) (W.setRow N L2.toArray):=fun W hW ty dc sc=>by
  rw[hL2]
  have:=run_copyK W 22 22 ty 29 2 N ((i+1)*2) (n-i) dc ⟨g,i*2,none⟩ (n-i) sc L1.toArray 29 (xs.drop (i*2)) Tryz.underlying22 sz2_PlPair hW.1 (by rw[List.length_drop,hxl];simp only[Nat.min_def];split<;>omega)
   (hxc W hW.2 (i*2) _ (fun j u hj=>by rw[List.getElem?_drop]at hj;exact hj)) (by rw[List.length_drop,hxl];simp[hl1];omega) (fun v hv=>h1x v (List.mem_of_mem_drop hv))
  simpa using this
 have hmid:∀W:World,W.heap=((w.drew.alloc (.cells L0.toArray 29)).setRow N L1.toArray).heap→W.heap[N]?=some (.cells L1.toArray 29 (0,0))∧∀q,q<N→W.heap[q]?=w.heap[q]?:=fun W hW=>by
  rw[hW];exact⟨setRow_heap _ N _ _ _ _ (hHN _),fun q hq=>by rw[setRow_other _ N q _ (by omega),hHg q _ hq]⟩
 have HFin:=qd (fun(W:World) (hW:W.heap=((w.drew.alloc (.cells L0.toArray 29)).setRow N L1.toArray).heap) (h1:W.os=w.os) (h2:W.tape=w.tape) (h3:W.output=w.output)=>show InsP base n (.slice (some ⟨g,0,none⟩) n cap) (xs.take (i*2)++([.int .u64 k,.int .u64 v]++xs.drop (i*2))) w (.returned (.slice (some ⟨N,0,none⟩) (n+1) G)) (W.setRow N L2.toArray)from by
  have hm:=hmid W hW
  have hsW:W.heap.size=w.heap.size+1:=by rw[hW];simp[World.setRow]
  have hr:=own_setRow (base:=base) (n:=n+1) (cur':=L2.toArray) (xs:=xs.take (i*2)++([.int .u64 k,.int .u64 v]++xs.drop (i*2))) hm.1 (by omega) hGn hG63 (by simpa using hl2) (by simpa using hfin2);refine⟨_,rfl,hr.1,⟨h1,h2,h3,by simp[World.setRow,hsW],fun q hq hn=> ?_⟩,fun q hq=> .inr ?_⟩
  ·rw[setRow_other W N q _ (by omega)];exact hm.2 q (by omega)
  ·have:q=N:=by simpa[Value.ownBlock]using hq
   omega)
 have HMid:=qd hmid
 have mixed:Tryz.prog.follows Departure.mixedOrders=true:=by kernel_rfl
 have hb1:(0:Int)≤(i:Int)+1:=by omega
 have hz2:¬((i:Int)=(n:Int)):=by omega
 have hz3:(cap:Int)<(n:Int)+1:=by omega
 have hw1:IntKind.i64.wrap ((i:Int)+1)=(i:Int)+1:=by rw[IntKind.wrap_i64];omega
 have hw2:IntKind.i64.wrap ((n:Int)+1)=(n:Int)+1:=by rw[IntKind.wrap_i64];omega
 have hin:i≤n:=by omega
 have htn:((i:Int)+1).toNat=i+1:=by omega
 have hb3:(i:Int)≤(n:Int):=by omega
 have hGi:¬(G=i):=by omega
 have hGim:¬(G=i+1):=by omega
 have hci:¬(cap=i):=by omega
 have hgN:g<N:=by omega
 obtain⟨ys,hys⟩:∃ys,ys=xs.take (i*2)++([Value.int .u64 k,.int .u64 v]++xs.drop (i*2)):=⟨_,rfl⟩;rw[←hys]at HFin⊢;clear hys hL0 hL1 hL2 hfin2 hh htk hl0 hl1 hl2 c0 c1 hB ho hmax hsz hZ hZl hold hxc hHg hHN hG hmid hrow0;subst hN;have hT:=fun(ty:TypeId)=>hcpA ((w.alloc (.cells L0.toArray 29)).drew) rfl ty (G-i);have hM3:=HMid.out ((((w.alloc (.cells L0.toArray 29)).drew).setRow w.heap.size L1.toArray).drew) rfl;have hT2:=hcpB ((((w.alloc (.cells L0.toArray 29)).drew).setRow w.heap.size L1.toArray).drew) ⟨hM3.1,hM3.2 g hgN⟩;clear hM3;go_in
 go_upto_region 10 with(at_builtin;refine Lib.wpList_append_run _ rfl _ _ _ _ rfl _ _ rfl rfl _ _ (hrz _) ?_)
 go_wp2_with (at_builtin;refine wpList_copy_runI _ rfl _ _ 22 22 rfl _ _ rfl rfl (hT _) ?_);go_region_law_o (refine step_copy_runI rfl _ _ 22 22 rfl _ _ (by simp[Act.eval,Act.put]) (by simp[Act.eval,Act.put]) (hT2 _ _ _) ?_);go_wp2;go_ret;exact HFin.out _ rfl rfl rfl rfl
end
section
variable {base fb most : Nat} {w : World} {l : PL} {F : List Nat}
theorem pl_search {A:Option Addr}{c:Nat}(ho:w.ownsRow base 29 2 (.slice A l.length c) l.length (l.flatMap pairC))(ha:AscP l)(hn:l.length≤100000)(key:Nat):
  Calls Tryz.prog 37 #[.slice A l.length c,.int .u64 (key:Int),.func (.func 38) #[] #[]] w fun y w'=>y= .returned (.tuple #[.int .i64 (lowP l key:Int),.bool (isP l key)])∧Below w.heap.size w w':=by
 have hlow:=lowP_le l key;have HO:=qd ho;have HA:=qd ha;have HB:=qd (Below.refl w.heap.size w);obtain⟨lo,hlo⟩:∃lo,lo=lowP l key:=⟨_,rfl⟩;rw[←hlo]at hlow;have HLo:=qd hlo;obtain⟨is,his⟩:∃is,is=isP l key:=⟨_,rfl⟩;have HIs:=qd his;rw[←hlo,←his];clear ho ha hlo his;go_in;go_wp2;go_loopw [9,10,11] (fun v9 v10 _ wr=>∃i j:Nat,i≤lo∧lo≤j∧j≤l.length∧v9= .int .i64 (i:Int)∧v10= .int .i64 (j:Int)∧Hid (Below w.heap.size w wr)) (fun v9 v10 _ _=>((intOf v10)-(intOf v9)).toNat)
 case atStart=>exact⟨0,l.length,by omega,hlow,by omega,rfl,rfl,HB⟩
 case round=>
  clear HB;obtain⟨i,j,hi,hj,hjl,rfl,rfl,HB⟩:=hrel;by_cases hij:i<j
  ·have hij':(i:Int)<(j:Int):=by omega
   obtain⟨m,hm⟩:∃m,m=(i+j)/2:=⟨_,rfl⟩
   have hw1:IntKind.i64.wrap ((i:Int)+(j:Int))=(i:Int)+(j:Int):=by rw[IntKind.wrap_i64];omega
   have hw2:IntKind.u64.wrap ((i:Int)+(j:Int))=(i:Int)+(j:Int):=by rw[IntKind.wrap_u64];omega
   have hw3:((i:Int)+(j:Int))/2=(m:Int):=by omega
   have hw4:IntKind.i64.wrap (m:Int)=(m:Int):=by rw[IntKind.wrap_i64];omega
   have hw5:IntKind.i64.wrap ((m:Int)+1)=((m+1:Nat):Int):=by rw[IntKind.wrap_i64];omega
   have hml:m<l.length:=by omega
   have hm':(m:Int)<(l.length:Int):=by omega
   have hm0:(0:Int)≤(m:Int):=by omega
   obtain⟨p,hp⟩:∃p,l[m]?=some p:=⟨_,List.getElem?_eq_getElem hml⟩;obtain⟨g,off,hA2,hgl,hc⟩:=(Reads.of_own (own_below HO.out HB.out (Nat.le_refl _))).2 (by omega);have r0:wr.cell? ⟨g,off+m*2,none⟩=some (.int .u64 (p.1:Int)):=hc (m*2+0) _ (pairC_at hp (by omega));have r1:wr.cell? ⟨g,off+m*2+1,none⟩=some (.int .u64 (p.2:Int)):=hc (m*2+1) _ (pairC_at hp (by omega));have HK:=qd (fun(W:World)=>pl_byKey p key W);have HLt:=qd (show m<lo↔p.1<key from by rw[HLo.out];exact lowP_lt HA.out hp);have HM:=qd (show i≤m∧m<j by omega);clear hc hp hm;subst hA2;go_wp2_with fail;refine(HK.out _).mono ?_;rintro y w2 ⟨rfl,hb2⟩;have HB2:=qd (HB.out.trans (hb2.mono HB.out.size));clear hb2;by_cases hlt:p.1<key
   ·have hcv:cmpKey p.1 key= -1:=by unfold cmpKey;rw[if_pos hlt]
    rw[hcv];have HI:=qd (show m+1≤lo from HLt.out.2 hlt);clear hcv;go_wp2;go_roundw
    all_goals first|exact⟨m+1,j,HI.out,hj,hjl,rfl,rfl,HB2⟩|(simp[intOf];have:=HM.out;omega)
   ·have hcv:(cmpKey p.1 key<0)=False:=by unfold cmpKey;rw[if_neg hlt];split<;>simp
    have hcd:decide (cmpKey p.1 key<0)=false:=decide_eq_false (fun h=>by rw[hcv]at h;exact h);have HI:=qd (show lo≤m from by have:=HLt.out;omega);go_wp2;go_roundw
    all_goals first|exact⟨i,m,hi,HI.out,by omega,rfl,rfl,HB2⟩|(simp[intOf];have:=HM.out;omega)
  ·obtain rfl:i=lo:=by omega
   obtain rfl:j=i:=by omega
   have hni:¬(j:Int)<(j:Int):=by omega
   by_cases hjn:j<l.length
   ·have hj':(j:Int)<(l.length:Int):=by omega
    have hj0:(0:Int)≤(j:Int):=by omega
    obtain⟨p,hp⟩:∃p,l[j]?=some p:=⟨_,List.getElem?_eq_getElem hjn⟩;obtain⟨g,off,hA2,hgl,hc⟩:=(Reads.of_own (own_below HO.out HB.out (Nat.le_refl _))).2 (by omega);have r0:wr.cell? ⟨g,off+j*2,none⟩=some (.int .u64 (p.1:Int)):=hc (j*2+0) _ (pairC_at hp (by omega));have r1:wr.cell? ⟨g,off+j*2+1,none⟩=some (.int .u64 (p.2:Int)):=hc (j*2+1) _ (pairC_at hp (by omega));have HK:=qd (fun(W:World)=>pl_byKey p key W)
    have HIe:=qd (show is=(cmpKey p.1 key==0)from by
     rw[HIs.out];unfold isP;rw[←HLo.out,hp,Option.any_some];unfold cmpKey;rcases Nat.lt_trichotomy p.1 key with h|h|h
     ·rw[if_pos h];simp;omega
     ·rw[if_neg (by omega),if_neg (by omega)];simp[h]
     ·rw[if_neg (by omega),if_pos h];simp;omega)
    clear hc hp;subst hA2;go_wp2_with fail;refine(HK.out _).mono ?_;rintro y w2 ⟨rfl,hb2⟩;have HB2:=qd (HB.out.trans (hb2.mono HB.out.size));clear hb2;obtain⟨cv,hcv⟩:∃cv,cv=cmpKey p.1 key:=⟨_,rfl⟩;have HC:=qd hcv;rw[←hcv];clear hcv;go_wp2;refine bodyPost_ret (v:= .tuple #[.int .i64 (j:Int),.bool (cv==0)]) (by simp[results,Tryz.results37,go_sem]) rfl ⟨by rw[HIe.out,HC.out],HB2.out⟩
   ·have hj':¬(j:Int)<(l.length:Int):=by omega
    have HIe:=qd (show is=false from by
     rw[HIs.out];unfold isP;rw[←HLo.out,List.getElem?_eq_none (by omega)]
     rfl)
    go_wp2;refine bodyPost_ret (v:= .tuple #[.int .i64 (j:Int),.bool false]) (by simp[results,Tryz.results37,go_sem]) rfl ⟨by rw[HIe.out],HB.out⟩
theorem pl_find (h:PlF base w fb most F l)(hn:l.length≤100000)(key:Nat):
  Calls Tryz.prog 15 #[.pointer (some ⟨fb,0,none⟩),.int .u64 (key:Int)] w fun y w'=>y= .returned (.tuple #[.int .i64 (lowP l key:Int),.bool (isP l key)])∧Below w.heap.size w w':=by
 obtain⟨v,hB,ho,rfl,hb,ha⟩:=h;obtain⟨A,c,rfl⟩:=own_form ho;have c1:=hB.cell 1;simp only[gl]at c1;have HS:=qd (pl_search ho ha hn key);clear hB ho ha;go_in;go_wp2_with fail;refine HS.out.mono ?_;rintro y w1 ⟨rfl,hb1⟩;have HB1:=qd hb1;clear hb1;go_wp2;refine bodyPost_ret (v:= .tuple #[.int .i64 (lowP l key:Int),.bool (isP l key)]) (by simp[results,Tryz.results15,go_sem]) rfl ⟨rfl,HB1.out⟩
theorem pl_Get (h:PlF base w fb most F l)(hn:l.length≤100000)(key:Nat):
  Calls Tryz.prog 43 #[.pointer (some ⟨fb,0,none⟩),.int .u64 (key:Int)] w fun y w'=>y= .returned (.tuple #[.int .u64 (((getP l key).getD 0:Nat):Int),.bool (getP l key).isSome])∧Below w.heap.size w w':=by
 have HF:=qd (pl_find h hn key);have ha:=h.asc;obtain⟨v,hB,ho,rfl,hb,_⟩:=h;obtain⟨A,c,rfl⟩:=own_form ho;have HO:=qd ho;have HB:=qd hB;clear hB ho
 cases hi:isP l key with
 |false=>
  have hg:=isP_false ha hi;rw[hg];rw[hi]at HF;clear hi hg;go_in;go_wp2_with fail;refine HF.out.mono ?_;rintro y w1 ⟨rfl,hb1⟩;have HB1:=qd hb1;clear hb1;go_wp2;refine bodyPost_ret (v:= .tuple #[.int .u64 0,.bool false]) (by simp[results,Tryz.results43,go_sem]) rfl ⟨rfl,HB1.out⟩
 |true=>
  obtain⟨u,hu,hg⟩:=(isP_iff ha).1 hi;rw[hg];rw[hi]at HF;obtain⟨lo,hlo⟩:∃lo,lo=lowP l key:=⟨_,rfl⟩;rw[←hlo]at HF hu;clear hi hg hlo;have hll:lo<l.length:=(List.getElem?_eq_some_iff.1 hu).1
  have hl':(lo:Int)<(l.length:Int):=by omega
  have hl0:(0:Int)≤(lo:Int):=by omega
  go_in;go_wp2_with fail;refine HF.out.mono ?_;rintro y w1 ⟨rfl,hb1⟩;obtain⟨g,off,hA2,hgl,hc⟩:=(Reads.of_own (own_below HO.out hb1 (Nat.le_refl _))).2 (by omega);have r1:w1.cell? ⟨g,off+lo*2+1,none⟩=some (.int .u64 (u:Int)):=hc (lo*2+1) _ (pairC_at hu (by omega));have c1:=(HB.out.below hb1 HB.out.lt).cell 1;simp only[gl]at c1;subst hA2;have HB1:=qd hb1;clear hb1 hc hu;go_wp2;refine bodyPost_ret (v:= .tuple #[.int .u64 (u:Int),.bool true]) (by simp[results,Tryz.results43,go_sem]) rfl ⟨rfl,HB1.out⟩
theorem pl_New (most:Nat)(w:World):
  Calls Tryz.prog 5 #[.int .i64 (most:Int)] w fun y w'=>y= .returned (.pointer (some ⟨w.heap.size,0,none⟩))∧PlF w.heap.size w' w.heap.size most [w.heap.size] []∧Below w.heap.size w w':=by
 go_in;go_wp2;go_ret;exact⟨rfl,⟨_,Blk.new w _ _,World.ownsRow_nil _ _ _ _,rfl,Nat.le_refl _,List.Pairwise.nil⟩,(Below.refl w.heap.size w).alloc (Nat.le_refl _) _⟩
end
end Go.Proofs.YtchlkhkeonnmdacGreatDoor
