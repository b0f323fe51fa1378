/- A function's Put and Pairs by their contracts. No statement of the claim. -/
import Derived.Test.YtchlkhkeonnmdacGreatDoorPlB
import Derived.Test.YtchlkhkeonnmdacGreatDoorLaneP
import Derived.Test.YtchlkhkeonnmdacGreatDoorCoAB
import Derived.Laws.StructEq
import Derived.Test.YtchlkhkeonnmdacGreatDoorCoCQ
import Derived.Test.YtchlkhkeonnmdacGreatDoorCoS
import Derived.Test.YtchlkhkeonnmdacGreatDoorCoBV
import Derived.Test.YtchlkhkeonnmdacGreatDoorRmB
import Derived.Test.YtchlkhkeonnmdacGreatDoorRmM
namespace Go.Proofs.YtchlkhkeonnmdacGreatDoor
set_option maxRecDepth 100000
set_option maxHeartbeats 4000000
open Go.RowKit Go.Shelf AmC AmL
section
variable {w : World} {base c n sz : Nat} {t : TypeId} {xs : List Value} {A : Option Addr} {l : PL}
theorem own_cellSet {g i:Nat}(h:w.ownsRow base t sz (.slice (some ⟨g,0,none⟩) n c) n xs)(u:Value):
  (w.setCell ⟨g,i,none⟩ u).ownsRow base t sz (.slice (some ⟨g,0,none⟩) n c) n (xs.set i u)∧Mod [g] w (w.setCell ⟨g,i,none⟩ u):=by
 rcases h.2 with⟨h2,_⟩|⟨g',cap,cur,hv,hg,hh,hcap,hmax,hsz,htk⟩
 ·cases h2
 ·injection hv with hv _ hc
  injection hv with hv
  injection hv with hv _ _
  subst hv hc;have hB:Blk w g t cur:=hh;refine⟨⟨by rw[List.length_set];exact h.1,.inr ⟨g,c,_,rfl,hg,hB.set_ i u,hcap,hmax,by simpa using hsz, ?_⟩⟩,(Mod.refl [g] w).set_ (.inl (by simp)) i u⟩;rw[Array.toList_setIfInBounds,List.take_set,htk]
theorem own_at0 (h:w.ownsRow base t sz (.slice A n c) n xs)(hn:0<n):∃g,A=some ⟨g,0,none⟩∧g<w.heap.size∧base≤g∧n≤c∧(∀i,w.frozen? ⟨g,i,none⟩=false):=by
 rcases h.2 with⟨h2,h0⟩|⟨g,cap,cur,hv,hg,hh,hcap,hmax,hsz,htk⟩
 ·omega
 ·injection hv with hv _ hc
  subst hv hc;exact⟨g,rfl,(Array.getElem?_eq_some_iff.1 hh).1,hg,hcap,fun i=>by simp[World.frozen?,hh]⟩
theorem pl_insert {lo vb:Nat}{k v:Nat}{tv:TypeId}(ho:w.ownsRow base 29 2 (.slice A l.length c) l.length (l.flatMap pairC))(hB:Blk w vb tv #[.int .u64 (k:Int),.int .u64 (v:Int)])(hne:∀g,(Value.slice A l.length c).ownBlock=some g→vb≠g)(hlo:lo≤l.length)(hn:l.length≤100000)(hbw:base≤w.heap.size):
  Calls Tryz.prog 16 #[.slice A l.length c,.int .i64 (lo:Int),.slice (some ⟨vb,0,none⟩) 1 1] w (InsP base l.length (.slice A l.length c) ((l.take lo++(k,v)::l.drop lo).flatMap pairC) w):=by
 have hxs:(l.take lo++(k,v)::l.drop lo).flatMap pairC=(l.flatMap pairC).take (lo*2)++([.int .u64 (k:Int),.int .u64 (v:Int)]++(l.flatMap pairC).drop (lo*2)):=by
  rw[List.flatMap_append,List.flatMap_cons,pairC_take,pairC_drop];rfl
 rw[hxs];by_cases he:lo=l.length
 ·subst he;have h1:=insert_end ho hB hn hbw;rw[List.take_of_length_le (by rw[pairC_length];omega),List.drop_of_length_le (by rw[pairC_length];omega),List.append_nil];exact h1
 ·obtain⟨g,rfl,_,_,hc,_⟩:=own_at0 ho (by omega);by_cases hr:l.length+1≤c
  ·exact insert_shift ho hB (hne g rfl) (by omega) hr (pairC_one l)
  ·exact insert_grow ho hB (by omega) (by omega) (pairC_one l) hn hbw
theorem pl_Put {most fb:Nat}{F:List Nat}(h:PlF base w fb most F l)(hn:l.length≤90000)(key val:Nat)(hroom:isP l key=false→l.length<most)(hm:most≤100000):
  Calls Tryz.prog 6 #[.pointer (some ⟨fb,0,none⟩),.int .u64 (key:Int),.int .u64 (val:Int)] w fun y w'=>y= .returned .nilIface∧PlTo base w w' fb most F (putP l key val):=by
 have HF:=qd (pl_find h (by omega) key);have hput:=putP_asc h.asc key val;obtain⟨v,hB,ho,rfl,hb,ha⟩:=h;obtain⟨A,c,rfl⟩:=own_form ho;have hty:=own_typ ho hB (by decide);have hlow:=lowP_le l key
 cases hi:isP l key with
 |true=>
  obtain⟨u,hu,hg⟩:=(isP_iff ha).1 hi
  have hpp:putP l key val=l.set (lowP l key) (key,val):=by unfold putP;rw[if_pos hi]
  rw[hpp]at hput⊢;rw[hi]at HF;obtain⟨lo,hlo⟩:∃lo,lo=lowP l key:=⟨_,rfl⟩;rw[←hlo]at HF hu hput⊢;have hll:lo<l.length:=(List.getElem?_eq_some_iff.1 hu).1;have hset:=pairC_set hll key val (by rw[hu];rfl);obtain⟨g,rfl,hgl,hbg,hcl,_⟩:=own_at0 ho (by omega)
  have hl':(lo:Int)<(l.length:Int):=by omega
  have hl0:(0:Int)≤(lo:Int):=by omega
  have HX:=qd (And.intro ho (And.intro hB (And.intro hty (And.intro hb (And.intro hput (And.intro hset hu))))));clear hi hg hlo ho hB hty hpp hput hset hroom ha hlow;go_in;go_wp2_with fail;refine HF.out.mono ?_;rintro y w1 ⟨rfl,hb1⟩;have ho1:=own_below HX.out.1 hb1 (Nat.le_refl _);have hB1:=HX.out.2.1.below hb1 HX.out.2.1.lt;have c1:=hB1.cell 1;simp only[gl]at c1;obtain⟨g2,off,hA2,hgl2,hc⟩:=(Reads.of_own ho1).2 (by omega)
  injection hA2 with hA2
  injection hA2 with hA2 hA3 _
  subst hA2 hA3
  have r1:w1.cell? ⟨g,lo*2+1,none⟩=some (.int .u64 (u:Int)):=by have:=hc (lo*2+1) _ (pairC_at HX.out.2.2.2.2.2.2 (by omega));rw[Nat.zero_add]at this;exact this
  have hfz:w1.frozen? ⟨g,lo*2+1,none⟩=false:=by
   obtain⟨g3,h3,_,_,_,h4⟩:=own_at0 ho1 (by omega)
   injection h3 with h3
   injection h3 with h3 _ _
   subst h3;exact h4 _
  have HB1:=qd (And.intro hb1 (And.intro ho1 hB1));clear hb1 ho1 hB1 hc;go_wp2;go_ret;refine⟨rfl,_,⟨_,HB1.out.2.2.far (p:=⟨g,lo*2+1,none⟩) (fun e=>HX.out.2.2.1 (by simp[Value.ownBlock,e])) _, ?_,rfl,HX.out.2.2.2.1,HX.out.2.2.2.2.1⟩,fun q hq=> .inl hq, ?_⟩
  ·have h1:=(own_cellSet (i:=lo*2+1) HB1.out.2.1 (.int .u64 (val:Int))).1;rw[HX.out.2.2.2.2.2.1]at h1;rw[List.length_set];exact h1
  ·exact(Mod.of_below HB1.out.1 _).then ((Mod.refl _ _).set_ (.inl (by simp[Value.ownBlock])) _ _)
 |false=>
  have hlm:=hroom hi
  have hpp:putP l key val=l.take (lowP l key)++(key,val)::l.drop (lowP l key):=by unfold putP;rw[if_neg (by rw[hi];simp)]
  rw[hpp]at hput⊢;rw[hi]at HF;obtain⟨lo,hlo⟩:∃lo,lo=lowP l key:=⟨_,rfl⟩;rw[←hlo]at HF hput hlow⊢
  have hl':¬(most:Int)≤(l.length:Int):=by omega
  obtain⟨l2,hl2⟩:∃l2,l2=l.take lo++(key,val)::l.drop lo:=⟨_,rfl⟩
  have hlen2:l2.length=l.length+1:=by rw[hl2,List.length_append,List.length_cons,List.length_take,List.length_drop];omega
  rw[←hl2]at hput⊢;have HX:=qd (And.intro ho (And.intro hB (And.intro hty (And.intro hb (And.intro hput (And.intro hlow (And.intro hl2 hlen2)))))));clear hi hlo ho hB hty hpp hput hroom ha hlow hlm hl2 hlen2;go_in;go_wp2_with fail;refine HF.out.mono ?_;rintro y w1 ⟨rfl,hb1⟩;have ho1:=own_below HX.out.1 hb1 (Nat.le_refl _);have hB1:=HX.out.2.1.below hb1 HX.out.2.1.lt;obtain⟨c0,c1⟩:=hB1.c2;have HB1:=qd (And.intro hb1 (And.intro ho1 hB1));clear hb1 ho1 hB1;go_upto_region 5 with fail;go_region;go_upto_region 2 with fail;refine nameW (F:=fun W=>Below w1.heap.size w1 W) (Below.refl _ _).drew ?_;rintro w2 hb2;have ho2:=own_below HB1.out.2.1 hb2 (Nat.le_refl _);have hB2:=HB1.out.2.2.below hb2 HB1.out.2.2.lt
  have hbs:base≤w2.heap.size:=by have:=HX.out.2.2.2.1;have:=hB2.lt;omega
  have hI:=fun(tv:TypeId)=>pl_insert (lo:=lo) (k:=key) (v:=val) (w:=w2.alloc (.cells #[.int .u64 (key:Int),.int .u64 (val:Int)] tv)) (vb:=w2.heap.size) (ho2.alloc _) (Blk.new w2 tv _) (fun g hg e=>by have:=(ho2.lt g hg).2;omega) HX.out.2.2.2.2.2.1 (by omega) (by simp;omega);rw[←HX.out.2.2.2.2.2.2.1]at hI;have HI:=qd hI;have HB2:=qd (And.intro (HB1.out.1.trans (hb2.mono HB1.out.1.size)) (And.intro ho2 hB2));replace c1:w2.cell? ⟨fb,1,none⟩=some (.slice A l.length c):=cell_in hb2 c1;clear hb2 ho2 hB2 hI HB1 c0;go_wp2_with fail;refine(HI.out _).mono ?_;rintro y w3 ⟨v',rfl,ho3,hm3,hs3⟩;obtain⟨A',c',rfl⟩:=own_form ho3;have hlt:fb<w2.heap.size:=HB2.out.2.2.lt;have hB3:Blk w3 fb 49 #[.int .i64 (most:Int),.slice A l.length c]:=(HB2.out.2.2.alloc _).mod hm3 HX.out.2.2.1;have c1:=hB3.cell 1;have f1:=hB3.frozen 1;simp only[gl]at c1
  have hsz:w2.heap.size+1≤w3.heap.size:=by have:=hm3.size;simpa using this
  have hne3:fb∉(Value.slice A' (l.length+1) c').ownBlock.toList:=fun hq=>(hs3 fb hq).elim HX.out.2.2.1 (fun k=>by simp at k;omega)
  have HY:=qd (show PlTo base w (w3.setCell ⟨fb,1,none⟩ (.slice A' (l.length+1) c')) fb most (fb::(Value.slice A l.length c).ownBlock.toList) l2 from by
   have hm0:Mod (fb::(Value.slice A l.length c).ownBlock.toList) w w3:=((Mod.of_below HB2.out.1 _).alloc _).then (hm3.more (fun q hq=>List.mem_cons_of_mem _ hq));refine⟨_,⟨_,hB3.set_ 1 _, ?_,rfl,HX.out.2.2.2.1,HX.out.2.2.2.2.1⟩,fun q hq=> ?_,hm0.then ((Mod.refl _ _).set_ (.inl (by simp)) _ _)⟩
   ·have hx:=HX.out.2.2.2.2.2.2.2;refine⟨by rw[pairC_length], ?_⟩;rw[hx];rcases ho3.2 with k|⟨g,cap,cur,hv3,k2,k3,k4⟩
    ·exact .inl k
    ·refine .inr ⟨g,cap,cur,hv3,k2, ?_,k4⟩;exact(Below.heap_setCell w3 ⟨fb,1,none⟩ _ g (fun e=>hne3 (by rw[hv3];simp[Value.ownBlock,e]))).trans k3
   ·rcases List.mem_cons.1 hq with rfl|hq
    ·exact .inl (by simp)
    ·rcases hs3 q hq with k|k
     ·exact .inl (List.mem_cons_of_mem _ k)
     ·refine .inr ?_;have h1:=HB2.out.1.size;simp at k
      omega)
  clear hB3 ho3 hm3 hs3 hne3;go_wp2;go_ret;exact⟨rfl,HY.out⟩
end
section
variable {B B' base c c' : Nat} {w : World} {l m : PL} {A A' : Option Addr}
theorem pl_clone {v:Value}(ho:w.ownsRow base 29 2 v l.length (l.flatMap pairC))(hn:l.length≤100000):
  Calls Tryz.prog 17 #[v] w fun y w'=>∃v',y= .returned v'∧w'.ownsRow w.heap.size 29 2 v' l.length (l.flatMap pairC)∧Below w.heap.size w w':=by
 have q22:∀(w:World) (a:Option Addr) (n c n' c':Nat),(binOp .eql 22 (.slice a n c) (.slice none n' c')).run Tryz.prog w= .ok (.bool a.isNone) w:=fun w a n c n' c'=>Lib.run_eql_slice_nil w _ _ a n c n' c' Tryz.underlying22
 have mixed:Tryz.prog.follows Departure.mixedOrders=true:=by kernel_rfl
 rcases ho.2 with⟨rfl,h0⟩|⟨g,cap,cur,rfl,hbg,hh,hcap,hmax,hsz,htk⟩
 ·obtain rfl:l=[]:=List.length_eq_zero_iff.1 h0;clear ho h0 hn;go_in;go_wp2;go_ret;exact⟨_,rfl,World.ownsRow_nil _ _ _ _,Below.refl _ _⟩
 ·obtain⟨i0,hi0,hz0,hz1,hz2⟩:=info_parts info_PlPair;have HI:=qd (And.intro hi0 (And.intro hz0 (And.intro hz1 hz2)))
  have HC:=qd (show∀(w2:World) (o:Obj),w2=w.alloc o→∀(j:Nat) (u:Value),(l.flatMap pairC)[j]?=some u→w2.cell? ((⟨g,0,none⟩:Addr).add j)=some u from by
   rintro w2 o rfl j u hj
   have hadd:(⟨g,0,none⟩:Addr).add j=⟨g,j,none⟩:=by unfold Addr.add;split<;>simp_all
   rw[hadd];refine Lib.cell?_alloc_some _ ?_;show(match w.heap[g]? with|some (.cells cs _ _)=>cs[j]?|_=>none)=_;rw[hh];rw[←htk,List.getElem?_take]at hj;split at hj
   ·simpa using hj
   ·cases hj)
  have H1:=qd (pairC_one l);have HL:=qd (pairC_length l);clear hi0 hz0 hz1 hz2 ho hh htk hsz hmax hbg;go_in;go_wp2_with (at_builtin;refine wpList_append_own _ rfl _ _ 22 rfl w.heap.size 29 i0 _ 2 16 Tryz.underlying22 HI.out.1 HI.out.2.1 HI.out.2.2.1 HI.out.2.2.2 rfl (by omega) _ _ _ rfl (World.ownsRow_made w #[] 0 (Nat.le_refl _) (Nat.zero_le _) (by simp)) ⟨g,0,none⟩ l.length cap (l.flatMap pairC) rfl HL.out (HC.out _ _ rfl) H1.out (by unfold maxLen;omega) (by omega) (by simp) ?_;intro v' w1 hown hgrow hnil;have HP:=qd (show w1.ownsRow w.heap.size 29 2 v' l.length (l.flatMap pairC)∧Below w.heap.size w w1 from⟨by simpa using hown,((Below.refl _ w).alloc (Nat.le_refl _) _).grown hgrow (by simp) (by intro k hk;cases hk;exact Nat.le_refl _)⟩);clear hown hgrow hnil);go_ret;exact⟨_,rfl,HP.out⟩
theorem pl_Pairs {most fb:Nat}{F:List Nat}(h:PlF base w fb most F l)(hn:l.length≤100000):
  Calls Tryz.prog 7 #[.pointer (some ⟨fb,0,none⟩)] w fun y w'=>∃v',y= .returned v'∧w'.ownsRow w.heap.size 29 2 v' l.length (l.flatMap pairC)∧Below w.heap.size w w':=by
 obtain⟨v,hB,ho,rfl,hb,ha⟩:=h;have HC:=qd (pl_clone ho hn);obtain⟨A,c,rfl⟩:=own_form ho;have c1:=hB.cell 1;simp only[gl]at c1;clear hB ho ha;go_in;go_wp2_with fail;refine HC.out.mono ?_;rintro y w1 ⟨v',rfl,h1,h2⟩;have HP:=qd (And.intro h1 h2);clear h1 h2;go_wp2;go_ret;exact⟨_,rfl,HP.out⟩
theorem eq_PlPair (x y:Nat×Nat)(W:World):(Op.equalIn 10000 29 (.agg #[.int .u64 (x.1:Int),.int .u64 (x.2:Int)]) (.agg #[.int .u64 (y.1:Int),.int .u64 (y.2:Int)])).run Tryz.prog W= .ok (decide (x=y)) W:=by
 have hS:Tryz.prog.underlying 29 =some (.struct (Tryz.prog.fieldsOf 29)):=by kernel_rfl
 have hp:Tryz.prog.stoodInHeld 29 =false:=by kernel_rfl
 rw[show(10000:Nat)=9999+1 from rfl,run_equalIn_agg W 9999 29 _ _ hS hp];simp only[Program.fieldsOf,Tryz.underlying29];go_simp
 by_cases h1:x.1=y.1<;>by_cases h2:x.2=y.2<;>simp[h1,h2,Prod.ext_iff]<;>omega
theorem pl_Equal (hl:Reads w B 2 A l.length (l.flatMap pairC))(hm:Reads w B' 2 A' m.length (m.flatMap pairC))(hn:l.length≤100000):
  Calls Tryz.prog 24 #[.slice A l.length c,.slice A' m.length c'] w fun y w'=>y= .returned (.bool (decide (l=m)))∧Below w.heap.size w w':=by
 have hgd:Tryz.prog.eqGuardType Tryz.prog.depth 29 =false:=by kernel_rfl
 by_cases hlen:l.length=m.length
 ·rw[←hlen]at hm⊢;have HL:=qd hl;have HM:=qd hm;have HB:=qd (Below.refl w.heap.size w);have HS:=qd (show∀t,t<0→l[t]?=m[t]? from fun t ht=>by omega);obtain⟨r,hr⟩:∃r,r=decide (l=m):=⟨_,rfl⟩;have HR:=qd hr;rw[←hr];clear hl hm hr;go_in;go_wp2;go_loopw [4,5,13] (fun _ _ v13 wr=>∃i:Nat,i≤l.length∧v13= .int .i64 (i:Int)∧Hid (∀t,t<i→l[t]?=m[t]?)∧Hid (Below w.heap.size w wr)) (fun _ _ v13 _=>l.length-(intOf v13).toNat)
  case atStart=>exact⟨0,by omega,rfl,HS,HB⟩
  case round=>
   clear HB HS;obtain⟨i,hi,rfl,HS,HB⟩:=hrel;by_cases hlt:i<l.length
   ·have hlt':(i:Int)<(l.length:Int):=by omega
    have hi0:(0:Int)≤(i:Int):=by omega
    have hwi:IntKind.i64.wrap ((i:Int)+1)=((i+1:Nat):Int):=by rw[IntKind.wrap_i64];omega
    obtain⟨x,hx⟩:∃x,l[i]?=some x:=⟨_,List.getElem?_eq_getElem hlt⟩;obtain⟨y,hy⟩:∃y,m[i]?=some y:=⟨_,List.getElem?_eq_getElem (by omega)⟩;obtain⟨g,off,hA,hgl,hc⟩:=HL.out.2 (by omega);obtain⟨g',off',hA',hgl',hc'⟩:=HM.out.2 (by omega);have hcc:∀(b o:Nat) (u:Value),w.cell? ⟨b,o,none⟩=some u→wr.cell? ⟨b,o,none⟩=some u:=fun b o u h=>cell_in HB.out h;have r0:wr.cell? ⟨g,off+i*2,none⟩=some (.int .u64 (x.1:Int)):=hcc _ _ _ (hc (i*2+0) _ (pairC_at hx (by omega)));have r1:wr.cell? ⟨g,off+i*2+1,none⟩=some (.int .u64 (x.2:Int)):=hcc _ _ _ (hc (i*2+1) _ (pairC_at hx (by omega)));have s0:wr.cell? ⟨g',off'+i*2,none⟩=some (.int .u64 (y.1:Int)):=hcc _ _ _ (hc' (i*2+0) _ (pairC_at hy (by omega)));have s1:wr.cell? ⟨g',off'+i*2+1,none⟩=some (.int .u64 (y.2:Int)):=hcc _ _ _ (hc' (i*2+1) _ (pairC_at hy (by omega)));have heq:=eq_PlPair x y;subst hA hA';have HMe:=qd (show l.length-(i+1)<l.length-i by omega);have HXY:=qd (And.intro hx hy);clear hc hc' hcc hx hy;obtain⟨q,hq⟩:∃q,q=decide (x=y):=⟨_,rfl⟩;have HQ:=qd hq;rw[←hq]at heq;clear hq;go_upto_region 6 with fail;go_region;refine nameW (F:=fun W=>Below w.heap.size w W) HB.out.drew ?_;intro w2 hb2;have HB2:=qd hb2;clear hb2
    cases q with
    |true=>
     have HS2:=qd (show∀t,t<i+1→l[t]?=m[t]? from fun t ht=>by
      by_cases h:t<i
      ·exact HS.out t h
      ·obtain rfl:t=i:=by omega
       rw[HXY.out.1,HXY.out.2,of_decide_eq_true HQ.out.symm])
     go_wp2;go_roundw
     all_goals first|exact⟨i+1,by omega,rfl,HS2,HB2⟩|(simp[intOf];have:=HMe.out;omega)
    |false=>
     have HN:=qd (show r=false from by
      rw[HR.out];refine decide_eq_false fun e=> ?_;have h1:=of_decide_eq_false HQ.out.symm;have h2:=HXY.out.1;rw[e,HXY.out.2]at h2
      exact h1 (Option.some.inj h2).symm)
     go_wp2;go_ret;exact⟨by rw[HN.out];rfl,HB2.out⟩
   ·obtain rfl:i=l.length:=by omega
    have hlt':¬(l.length:Int)<(l.length:Int):=by omega
    have HN:=qd (show r=true from by
     rw[HR.out];refine decide_eq_true (List.ext_getElem? fun t=> ?_);by_cases h:t<l.length
     ·exact HS.out t h
     ·rw[List.getElem?_eq_none (by omega),List.getElem?_eq_none (by omega)])
    go_wp2;go_ret;exact⟨by rw[HN.out];rfl,HB.out⟩
 ·have hlen':¬(l.length:Int)=(m.length:Int):=by omega
  clear hl hm;rw[show decide (l=m)=false from decide_eq_false (fun e=>hlen (by rw[e]))];go_in;go_wp2;go_ret;exact⟨rfl,Below.refl _ _⟩
theorem pl_Same (hl:Reads w B 2 A l.length (l.flatMap pairC))(hm:Reads w B' 2 A' m.length (m.flatMap pairC))(hn:l.length≤100000):
  Calls Tryz.prog 10 #[.slice A l.length c,.slice A' m.length c'] w fun y w'=>y= .returned (.bool (decide (l=m)))∧Below w.heap.size w w':=by
 have HE:=qd (pl_Equal (c:=c) (c':=c') hl hm hn);obtain⟨r,hr⟩:∃r,r=decide (l=m):=⟨_,rfl⟩;rw[←hr]at HE⊢;clear hl hm hr;go_in;go_wp2_with fail;refine HE.out.mono ?_;rintro y w1 ⟨rfl,hb1⟩;have HB:=qd hb1;clear hb1;go_wp2;go_ret;exact⟨rfl,HB.out⟩
end
section
variable {j key m : Nat} {es : List Ent} {e : Ent}
def FindPost (es:List Ent)(key:Nat)(y:Int):Prop:=(∃(i:Nat) (e:Ent),es[i]?=some e∧e.key=key∧y=(i:Int)∧∀k,k<i→∀e',es[k]?=some e'→e'.key≠key)∨((∀e∈es,e.key≠key)∧y= -1)
end
section
variable {es : List Ent} {j key : Nat} {e : Ent}
def without (es:List Ent)(key j:Nat):List Ent:=(es.take j).filter fun x=>x.key !=key
end
section
section
variable {w w' : World} {base mb M : Nat} {es : List Ent} {R : List Nat}
end
def cutAt (y:Option Ent)(hi:Nat):Option Ent:=match y with|none=>none|some m=>if m.hash≤hi then some m else none
end
section
variable {l : List Ent} {m : Ent} {b base : Nat} {w : World} {v : Value}
def Asc (l:List Ent):Prop:=l.Pairwise fun x y=>lessE x y=true
theorem Asc.nodup (h:Asc l):l.Nodup:=h.imp fun hxy e=>by rw[e,less_irrefl]at hxy;cases hxy
theorem asc_snoc (h:Asc l)(hm:∀e∈l,lessE e m=true):Asc (l++[m]):=List.pairwise_append.2 ⟨h,List.pairwise_singleton _ _,fun x hx y hy=>by rw[List.mem_singleton.1 hy];exact hm x hx⟩
def below_ (hs:List Nat)(b:Nat):Nat:=(hs.filter fun h=>decide (h<b)).length
theorem below_mono (hs:List Nat){a:Nat}(h:a≤b):below_ hs a≤below_ hs b:=by
 unfold below_
 induction hs with
 |nil=>simp
 |cons x l ih=>
  simp only[List.filter_cons];by_cases h1:x<a
  ·rw[if_pos (by simpa using h1),if_pos (by simp;omega)];simp only[List.length_cons];omega
  ·rw[if_neg (by simpa using h1)]
   split<;>(try simp only[List.length_cons])<;>omega
theorem below_more {hs:List Nat}{a x:Nat}(hx:x∈hs)(h1:a≤x)(h2:x<b):below_ hs a+1≤below_ hs b:=by
 obtain⟨s,t,rfl⟩:=List.append_of_mem hx;have g1:=below_mono s (Nat.le_trans h1 (Nat.le_of_lt h2));have g2:=below_mono t (Nat.le_trans h1 (Nat.le_of_lt h2));unfold below_ at g1 g2⊢;rw[List.filter_append,List.filter_append,List.filter_cons,List.filter_cons,if_neg (by simp;omega),if_pos (by simp;omega)];simp only[List.length_append,List.length_cons];omega
theorem below_le (hs:List Nat)(b:Nat):below_ hs b≤hs.length:=List.length_filter_le _ _
structure WalkSt (es:List Ent)(hs:List Nat)(n:Nat)(out:List Ent)(key hash:Nat):Prop where
 asc:Asc out
 mem:∀e,e∈out↔e∈es∧lessE e ⟨key,0,hash⟩=true
 cnt:n≤out.length+below_ hs hash
section
variable {es out : List Ent} {hs : List Nat} {n key hash hi : Nat}
theorem WalkSt.start (es:List Ent)(hs:List Nat):WalkSt es hs 0 [] 0 0:=⟨.nil,fun e=>by simp[lessE],Nat.zero_le _⟩
theorem sub_nodup {l':List Ent}(hn:l.Nodup)(hs:∀x∈l,x∈l'):l.length≤l'.length:=by
 induction l generalizing l' with
 |nil=>exact Nat.zero_le _
 |cons x l ih=>
  rw[List.nodup_cons]at hn;obtain⟨s,t,rfl⟩:=List.append_of_mem (hs x (by simp))
  have h1:=ih (l':=s++t) hn.2 (fun y hy=>by
   have:=hs y (by simp[hy]);simp only[List.mem_append,List.mem_cons]at this⊢;rcases this with h|h|h
   ·exact .inl h
   ·rw[h]at hy;exact absurd hy hn.1
   ·exact .inr h)
  simp only[List.length_append,List.length_cons]at h1⊢;omega
theorem WalkSt.len (h:WalkSt es hs n out key hash):out.length≤es.length:=sub_nodup h.asc.nodup (fun e he=>((h.mem e).1 he).1)
theorem WalkSt.few (h:WalkSt es hs n out key hash)(h1:es.length≤192)(h2:hs.length≤32):n≤224:=by
 have:=h.cnt;have:=h.len;have:=below_le hs hash;omega
theorem WalkSt.some_ (h:WalkSt es hs n out key hash)(hn:(es.map Ent.key).Nodup)(hm:IsLeast ⟨key,0,hash⟩ (upto es hi) (some m)):WalkSt es hs (n+1) (out++[m]) (m.key+1) m.hash∧(∀e∈out,lessE e m=true)∧m.hash≤hi∧m∈es:=by
 obtain⟨m1,m2⟩:=mem_upto.1 hm.1
 have hlt:∀e∈out,lessE e m=true:=fun e he=>by
  have h1:=((h.mem e).1 he).2;have h2:=hm.2.1;simp[lessE]at h1 h2⊢;omega
 have hh:=less_hash hm.2.1;refine⟨⟨asc_snoc h.asc hlt,fun e=>⟨fun he=> ?_,fun he=> ?_⟩, ?_⟩,hlt,m2,m1⟩
 ·rcases List.mem_append.1 he with h1|h1
  ·refine⟨((h.mem e).1 h1).1, ?_⟩;have:=hlt e h1;simp[lessE]at this⊢;omega
  ·rw[List.mem_singleton.1 h1];exact⟨m1,by simp[lessE]⟩
 ·rw[List.mem_append,List.mem_singleton]
  cases hl:lessE e ⟨key,0,hash⟩with
  |true=>exact .inl ((h.mem e).2 ⟨he.1,hl⟩)
  |false=>
   right;have h1:=he.2;have h2:=hm.2.2 e (mem_upto.2 ⟨he.1,by simp[lessE]at h1;omega⟩) hl
   have hk:e.key=m.key:=by simp[lessE]at h1 h2;omega
   have e1:=look_some hn he.1;have e2:=look_some hn m1;rw[hk,e2]at e1;exact(Option.some.inj e1).symm
 ·have:=h.cnt;have:=below_mono hs hh;simp only[List.length_append,List.length_cons,List.length_nil];omega
theorem WalkSt.none_ (h:WalkSt es hs n out key hash)(hm:IsLeast ⟨key,0,hash⟩ (upto es hi) none)(h1:hash≤hi)(h2:hi∈hs):WalkSt es hs (n+1) out 0 (hi+1):=by
 refine⟨h.asc,fun e=>⟨fun he=> ?_,fun he=> ?_⟩, ?_⟩
 ·have:=(h.mem e).1 he;refine⟨this.1, ?_⟩;have h3:=this.2;simp[lessE]at h3⊢;omega
 ·have h3:=he.2;exact(h.mem e).2 ⟨he.1,hm e (mem_upto.2 ⟨he.1,by simp[lessE]at h3;omega⟩)⟩
 ·have:=h.cnt;have:=below_more (b:=hi+1) h2 h1 (by omega);omega
end
end
section
structure Itm where
 st:Nat
 key:Nat
 val:Nat
def Itm.zero:Itm:=⟨0,0,0⟩
def Cur.passed (c:Cur)(e:Ent):Prop:=c.done=true∨lessE e ⟨c.key,0,c.hash⟩=true
inductive NextS (es:List Ent)(hs:List Nat)(c:Cur):Itm→Cur→Prop
 |done (h:c.done=true):NextS es hs c ⟨3,0,0⟩ c
 |yield (h:c.done=false) (hi:Nat) (m:Ent) (h1:c.hash≤hi) (h2:hi∈hs) (h3:hi<18446744073709551616) (h4:∀x∈hs,c.hash≤x→hi≤x) (hm:IsLeast ⟨c.key,0,c.hash⟩ (upto es hi) (some m)):NextS es hs c ⟨1,m.key,m.val⟩ (behind m.hash m.key)
 |skip (h:c.done=false) (hi:Nat) (h1:c.hash≤hi) (h2:hi∈hs) (h3:hi<18446744073709551616) (h4:∀x∈hs,c.hash≤x→hi≤x) (hm:IsLeast ⟨c.key,0,c.hash⟩ (upto es hi) none):NextS es hs c ⟨if hi<18446744073709551615 then 2 else 3,0,0⟩ (behind hi 18446744073709551615)
theorem behind_ok {h k:Nat}(h1:h<18446744073709551616):(behind h k).ok:=by
 unfold behind Cur.ok;split
 ·exact⟨h1,by simp only;omega⟩
 ·split
  ·exact⟨by simp only;omega,by simp⟩
  ·simp
theorem keys_apart {es:List Ent}(hn:(es.map Ent.key).Nodup):∀e∈es,∀e'∈es,e.key=e'.key→e=e':=fun e he e' he' hk=>by
 have e1:=look_some hn he;have e2:=look_some hn he';rw[hk,e2]at e1;exact(Option.some.inj e1).symm
section
variable {es out : List Ent} {hs : List Nat} {n : Nat} {c c' c'' : Cur} {i i' : Itm}
structure Way (es:List Ent)(hs:List Nat)(n:Nat)(out:List Ent)(c:Cur):Prop where
 asc:Asc out
 mem:∀e,e∈out↔e∈es∧c.passed e
 cnt:c.done=false→n≤out.length+below_ hs c.hash
 ok:c.ok
theorem Way.start (es:List Ent)(hs:List Nat):Way es hs 0 [] ⟨0,0,false⟩:=⟨.nil,fun e=>by simp[Cur.passed,lessE],fun _=>Nat.zero_le _,by simp[Cur.ok]⟩
theorem passed_behind {es:List Ent}{hash key:Nat}(h1:hash<18446744073709551616)(h2:key<18446744073709551616)(he:∀e∈es,e.hash<18446744073709551616∧e.key<18446744073709551616){e:Ent}(h:e∈es):(behind hash key).passed e↔lessE e ⟨key+1,0,hash⟩=true:=by
 have:=he e h;unfold behind Cur.passed;split
 ·simp[lessE]
 ·split
  ·simp[lessE];omega
  ·simp[lessE];omega
theorem Way.walkSt (h:Way es hs n out c)(hd:c.done=false):WalkSt es hs n out c.key c.hash:=⟨h.asc,fun e=>by rw[h.mem e];unfold Cur.passed;rw[hd];simp,h.cnt hd⟩
theorem walk_way {hash key:Nat}(h:WalkSt es hs n out (key+1) hash)(h1:hash<18446744073709551616)(h2:key<18446744073709551616)(he:∀e∈es,e.hash<18446744073709551616∧e.key<18446744073709551616):Way es hs n out (behind hash key):=by
 refine⟨h.asc,fun e=>⟨fun hh=> ?_,fun hh=> ?_⟩,fun hd=> ?_,behind_ok h1⟩
 ·obtain⟨g1,g2⟩:=(h.mem e).1 hh;exact⟨g1,(passed_behind h1 h2 he g1).2 g2⟩
 ·exact(h.mem e).2 ⟨hh.1,(passed_behind h1 h2 he hh.1).1 hh.2⟩
 ·have h3:=h.cnt
  have:hash≤(behind hash key).hash:=by
   unfold behind at hd⊢;split
   ·exact Nat.le_refl _
   ·split
    ·exact Nat.le_succ _
    ·rename_i a b;rw[if_neg a,if_neg b]at hd;cases hd
  have:=below_mono hs this;omega
theorem Way.next (h:Way es hs n out c)(hn:(es.map Ent.key).Nodup)(he:∀e∈es,e.hash<18446744073709551616∧e.key<18446744073709551616)(hN:NextS es hs c i c'):
  ∃out',Way es hs (n+1) out' c'∧((i.st=1∧c.done=false∧∃m∈es,out'=out++[m]∧(∀e∈out,lessE e m=true)∧¬c.passed m∧i.key=m.key∧i.val=m.val∧c'=behind m.hash m.key)∨(i.st≠1∧out'=out∧i.key=0∧i.val=0∧(i.st=2∨i.st=3)∧(i.st=3↔c'.done=true))):=by
 cases hN with
 |done hd=>exact⟨out,⟨h.asc,h.mem,fun hh=>(by rw[hd]at hh;cases hh),h.ok⟩,.inr ⟨by simp,rfl,rfl,rfl,.inr rfl,by simp[hd]⟩⟩
 |yield hd hi m h1 h2 h3 h4 hm=>
  obtain⟨w1,w2,w3,w4⟩:=(h.walkSt hd).some_ hn hm;have hb:=he m w4;exact⟨out++[m],walk_way w1 hb.1 hb.2 he,.inl ⟨rfl,hd,m,w4,rfl,w2,fun hp=>(by rcases hp with hp|hp;rw[hd]at hp;cases hp;have:=hm.2.1;rw[hp]at this;cases this),rfl,rfl,rfl⟩⟩
 |skip hd hi h1 h2 h3 h4 hm=>
  have hcn:=h.cnt hd
  have hpass:∀e∈es,((behind hi 18446744073709551615).passed e↔c.passed e):=fun e hh=>by
   rw[passed_behind h3 (by omega) he hh];have hb:=he e hh;unfold Cur.passed;rw[hd];constructor
   ·intro hl;right;exact hm e (mem_upto.2 ⟨hh,by simp[lessE]at hl;omega⟩)
   ·rintro(hl|hl)
    ·cases hl
    ·simp[lessE]at hl⊢;omega
  refine⟨out,⟨h.asc,fun e=>⟨fun hh=> ?_,fun hh=> ?_⟩,fun hx=> ?_,behind_ok h3⟩,.inr ⟨?_,rfl,rfl,rfl, ?_, ?_⟩⟩
  ·obtain⟨g1,g2⟩:=(h.mem e).1 hh;exact⟨g1,(hpass e g1).2 g2⟩
  ·exact(h.mem e).2 ⟨hh.1,(hpass e hh.1).1 hh.2⟩
  ·have hx':hi<18446744073709551615:=by
    unfold behind at hx;rw[if_neg (by omega)]at hx;by_cases hlt:hi<18446744073709551615
    ·exact hlt
    ·rw[if_neg hlt]at hx;cases hx
   have hb:(behind hi 18446744073709551615).hash=hi+1:=by
    unfold behind;rw[if_neg (by omega),if_pos hx']
   rw[hb];have:=below_more (b:=hi+1) h2 h1 (by omega);omega
  ·simp only;split<;>omega
  ·simp only;split<;>simp
  ·unfold behind
   by_cases hlt:hi<18446744073709551615<;>simp[hlt]
theorem Way.few (h:Way es hs n out c)(hd:c.done=false)(hN:NextS es hs c i c'):n<es.length+hs.length:=by
 have h1:=h.cnt hd;have h2:out.length≤es.length:=sub_nodup h.asc.nodup (fun e he=>((h.mem e).1 he).1)
 have h3:below_ hs c.hash<hs.length:=by
  have hx:∃hi,c.hash≤hi∧hi∈hs:=by
   cases hN with
   |done h=>rw[hd]at h;cases h
   |yield h hi m h1 h2=>exact⟨hi,h1,h2⟩
   |skip h hi h1 h2=>exact⟨hi,h1,h2⟩
  obtain⟨hi,g1,g2⟩:=hx;have:=below_more (b:=hi+1) g2 g1 (by omega);have:=below_le hs (hi+1);omega
 omega
theorem Way.all_ (h:Way es hs n out c)(hn:(es.map Ent.key).Nodup)(hd:c.done=true):out.Perm es:=
 (List.perm_ext_iff_of_nodup h.asc.nodup (by
  unfold List.Nodup at hn⊢;rw[List.pairwise_map]at hn
  exact hn.imp fun hxy e=>hxy (by rw[e]))).2 fun e=>⟨fun he=>((h.mem e).1 he).1,fun he=>(h.mem e).2 ⟨he,.inl hd⟩⟩
end
end
end Go.Proofs.YtchlkhkeonnmdacGreatDoor
