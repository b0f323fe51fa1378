/- Packages plan and credit by their contracts. -/
import Derived.Test.YtnfjjbpmhcbelaaGreatDoorCoBM
import Derived.Test.YtnfjjbpmhcbelaaGreatDoorSqM
import Derived.Test.YtnfjjbpmhcbelaaGreatDoorGaugeA
import Derived.Test.YtnfjjbpmhcbelaaGreatDoorAppAny
import Derived.Maps.OwnSet
import Derived.Maps.OwnOps
import Derived.Maps.RangeWalk
namespace Go.Proofs.YtnfjjbpmhcbelaaGreatDoor
set_option maxRecDepth 100000
set_option maxHeartbeats 4000000
open Go.RowKit dI Go.Maps
section
variable {jv k1 k2 k3 qv s : Value}
theorem L9 (P:Program)(w:World)(a:Addr)(x:Nat)(m:Mode):(store a (.float .f64 x) m).run P w=stored P w a (.float .f64 x) m:=run_store P w a _ m rfl
attribute [local go_sem] L9
def Av (n m:Int):Bool:=decide (1≤n) && decide (n≤m)
def gL (k m i:Int):Value:= .agg #[.int .i64 k,.int .i64 m,.int .i64 i]
theorem Fv (n m:Int)(w:World):Calls Tryz.prog 30 #[.int .i64 n,.int .i64 m] w fun e w'=>e= .returned (.bool (Av n m))∧w=w':=by
 unfold Av;by_cases h1:1≤n
 ·by_cases h2:n≤m
  ·rw[show(decide (1≤n) && decide (n≤m))=true from by simp[h1,h2]];go_in;go_wp2;go_ret;exact⟨rfl,rfl⟩
  ·rw[show(decide (1≤n) && decide (n≤m))=false from by simp[h2]];go_in;go_wp2;go_ret;exact⟨rfl,rfl⟩
 ·rw[show(decide (1≤n) && decide (n≤m))=false from by simp[h1]];go_in;go_wp2;go_ret;exact⟨rfl,rfl⟩
def oD (k m i:Int):Bool:=Av k 64 && (Av m 192 && Av i 8)
theorem tu {E:Nat→Addr}(k m i:Int)(w:World)(hE:uU E w):Calls Tryz.prog 6 #[gL k m i] w fun e w'=>e= .returned (if oD k m i=true then .nilIface else jf E 1)∧Below w.heap.size w w':=by
 have hB:=(Below.refl w.heap.size w).alloc (Nat.le_refl _) (.cells #[.int .i64 k,.int .i64 m,.int .i64 i] 23);have hC:=aj.new w 23 #[.int .i64 k,.int .i64 m,.int .i64 i];obtain⟨W,hW⟩:∃W,W=w.alloc (.cells #[.int .i64 k,.int .i64 m,.int .i64 i] 23):=⟨_,rfl⟩;rw[←hW]at hB hC;obtain⟨c0,c1,c2⟩:=hC.c3;have HW:=qd hW;have HB:=qd hB;have her:=hE.at_ 1 (by omega) (by omega);have hbk:=hE.below hB (Nat.le_refl _);replace her:=hbk.at_ 1 (by omega) (by omega);unfold fJ gE at her;simp only at her;have HP:=qd (Fv);unfold gL;clear hW hB hC hE hbk;unfold oD
 cases h1:Av k 64 with
 |false=>
  simp only[Bool.false_and,Bool.false_eq_true,if_false];go_in;go_upto_region 1 with fail;rw[←HW.out];have HQ:=qd (HP.out k 64 W);rw[h1]at HQ;go_wp2_with fail;refine(HQ.out).mono ?_;rintro y w1 ⟨rfl,rfl⟩;clear HQ;go_wp2;go_ret;exact⟨by rw[iI E (by omega:1≤1)];rfl,HB.out⟩
 |true=>
  cases h2:Av m 192 with
  |false=>
   simp only[Bool.true_and,Bool.false_and,Bool.false_eq_true,if_false];go_in;go_upto_region 1 with fail;rw[←HW.out];have HQ:=qd (HP.out k 64 W);rw[h1]at HQ;go_wp2_with fail;refine(HQ.out).mono ?_;rintro y w1 ⟨rfl,rfl⟩;clear HQ;have HQ:=qd (HP.out m 192 W);rw[h2]at HQ;go_wp2_with fail;refine(HQ.out).mono ?_;rintro y w1 ⟨rfl,rfl⟩;clear HQ;go_wp2;go_ret;exact⟨by rw[iI E (by omega:1≤1)];rfl,HB.out⟩
  |true=>
   cases h3:Av i 8 with
   |false=>
    simp only[Bool.true_and,Bool.false_eq_true,if_false];go_in;go_upto_region 1 with fail;rw[←HW.out];have HQ:=qd (HP.out k 64 W);rw[h1]at HQ;go_wp2_with fail;refine(HQ.out).mono ?_;rintro y w1 ⟨rfl,rfl⟩;clear HQ;have HQ:=qd (HP.out m 192 W);rw[h2]at HQ;go_wp2_with fail;refine(HQ.out).mono ?_;rintro y w1 ⟨rfl,rfl⟩;clear HQ;have HQ:=qd (HP.out i 8 W);rw[h3]at HQ;go_wp2_with fail;refine(HQ.out).mono ?_;rintro y w1 ⟨rfl,rfl⟩;clear HQ;go_wp2;go_ret;exact⟨by rw[iI E (by omega:1≤1)];rfl,HB.out⟩
   |true=>
    simp only[Bool.true_and,if_true];go_in;go_upto_region 1 with fail;rw[←HW.out];have HQ:=qd (HP.out k 64 W);rw[h1]at HQ;go_wp2_with fail;refine(HQ.out).mono ?_;rintro y w1 ⟨rfl,rfl⟩;clear HQ;have HQ:=qd (HP.out m 192 W);rw[h2]at HQ;go_wp2_with fail;refine(HQ.out).mono ?_;rintro y w1 ⟨rfl,rfl⟩;clear HQ;have HQ:=qd (HP.out i 8 W);rw[h3]at HQ;go_wp2_with fail;refine(HQ.out).mono ?_;rintro y w1 ⟨rfl,rfl⟩;clear HQ;go_wp2;go_ret;exact⟨rfl,HB.out⟩
theorem BF (k m i n:Int)(hk:1≤k∧k≤64)(hn:0≤n∧n≤24)(w:World):Calls Tryz.prog 121 #[gL k m i,.int .i64 n,.int .i64 0] w fun e w'=>e= .returned (.int .i64 (n*k))∧Below w.heap.size w w':=by
 have hB:=(Below.refl w.heap.size w).alloc (Nat.le_refl _) (.cells #[.int .i64 k,.int .i64 m,.int .i64 i] 23);have hC:=aj.new w 23 #[.int .i64 k,.int .i64 m,.int .i64 i];obtain⟨W,hW⟩:∃W,W=w.alloc (.cells #[.int .i64 k,.int .i64 m,.int .i64 i] 23):=⟨_,rfl⟩;rw[←hW]at hB hC;obtain⟨c0,c1,c2⟩:=hC.c3;have HW:=qd hW;have HB:=qd hB;have HP:=qd (Fv k 64 W);rw[show Av k 64=true from by simp[Av,hk]]at HP;have hnk:0≤n*k∧n*k≤24*64:=⟨Int.mul_nonneg hn.1 (by omega),Int.mul_le_mul hn.2 hk.2 (by omega) (by omega)⟩
 have hw1:IntKind.i64.wrap (n*k)=n*k:=by rw[IntKind.wrap_i64];omega
 unfold gL;clear hW hB hC hk hn hnk;go_in;go_upto_region 1 with fail;rw[←HW.out];go_wp2_with fail;refine(HP.out).mono ?_;rintro y w1 ⟨rfl,rfl⟩;go_wp2;go_ret;exact⟨rfl,HB.out⟩
theorem Ow (k m i:Int)(hk:1≤k∧k≤64)(w:World):Calls Tryz.prog 169 #[gL k m i] w fun e w'=>e= .returned (.int .i64 (8*k))∧Below w.heap.size w w':=by
 have hB:=(Below.refl w.heap.size w).alloc (Nat.le_refl _) (.cells #[.int .i64 k,.int .i64 m,.int .i64 i] 23);have hC:=aj.new w 23 #[.int .i64 k,.int .i64 m,.int .i64 i];obtain⟨W,hW⟩:∃W,W=w.alloc (.cells #[.int .i64 k,.int .i64 m,.int .i64 i] 23):=⟨_,rfl⟩;rw[←hW]at hB hC;obtain⟨c0,c1,c2⟩:=hC.c3;have HW:=qd hW;have HB:=qd hB;have HP:=qd (BF k m i 8 hk (by omega) W);unfold gL at HP⊢;clear hW hB hC hk;go_in;go_upto_region 1 with fail;rw[←HW.out];go_wp2_with fail;refine(HP.out).mono ?_;rintro y w1 ⟨rfl,hb⟩;have HB2:=qd (HB.out.trans (hb.mono HB.out.size));clear hb;go_wp2;go_ret;exact⟨gJ (by omega),HB2.out⟩
theorem IB (k m i:Int)(hk:1≤k∧k≤64)(w:World):Calls Tryz.prog 171 #[gL k m i] w fun e w'=>e= .returned (.int .i64 (1*k))∧Below w.heap.size w w':=by
 have hB:=(Below.refl w.heap.size w).alloc (Nat.le_refl _) (.cells #[.int .i64 k,.int .i64 m,.int .i64 i] 23);have hC:=aj.new w 23 #[.int .i64 k,.int .i64 m,.int .i64 i];obtain⟨W,hW⟩:∃W,W=w.alloc (.cells #[.int .i64 k,.int .i64 m,.int .i64 i] 23):=⟨_,rfl⟩;rw[←hW]at hB hC;obtain⟨c0,c1,c2⟩:=hC.c3;have HW:=qd hW;have HB:=qd hB;have HP:=qd (BF k m i 1 hk (by omega) W);unfold gL at HP⊢;clear hW hB hC hk;go_in;go_upto_region 1 with fail;rw[←HW.out];go_wp2_with fail;refine(HP.out).mono ?_;rintro y w1 ⟨rfl,hb⟩;have HB2:=qd (HB.out.trans (hb.mono HB.out.size));clear hb;go_wp2;go_ret;exact⟨gJ (by omega),HB2.out⟩
theorem Qe (sb:Nat)(b:Int)(w:World)(h:aj w sb 197 #[k1,k2,k3,qv,jv,.int .i64 b,.float .f64 0,s]):
  Calls Tryz.prog 227 #[.pointer (some ⟨sb,5,none⟩)] w fun e w'=>e= .returned (.int .i64 b)∧aj w' sb 197 #[k1,k2,k3,qv,jv,.int .i64 0,.float .f64 0,s]∧Mod [sb] w w':=by
 have c5:=h.cell 5;have c6:=h.cell 6;have f5:=h.frozen 5;have f6:=h.frozen 6;simp only[gl]at c5 c6;have hs:=((h.ak 5 (.int .i64 0)).ak 6 (.float .f64 0));simp only[pt]at hs;have HS:=qd (And.intro hs (((Mod.refl [sb] w).sl 5 (.int .i64 0)).sl 6 (.float .f64 0)));clear h hs;go_in;go_wp2;go_ret;exact⟨rfl,HS.out⟩
theorem JH (sb:Nat)(n:Int)(hn:0≤n∧n≤1000)(w:World)(h:aj w sb 197 #[k1,k2,k3,qv,jv,.int .i64 0,.float .f64 0,s]):
  Calls Tryz.prog 184 #[.pointer (some ⟨sb,5,none⟩),.int .i64 n] w fun e w'=>e= .returned (.int .i64 n)∧aj w' sb 197 #[k1,k2,k3,qv,jv,.int .i64 n,.float .f64 0,s]∧Mod [sb] w w':=by
 obtain⟨n0,n1⟩:=hn;have c5:=h.cell 5;have c6:=h.cell 6;have f5:=h.frozen 5;have f6:=h.frozen 6;simp only[gl]at c5 c6;have hs:=(h.ak 5 (.int .i64 n));simp only[pt]at hs;have HS:=qd (And.intro hs ((Mod.refl [sb] w).sl 5 (.int .i64 n)));clear h hs
 have hx0:¬n<0:=by omega
 have hx1:¬(1099511627776:Int)<n:=by omega
 have hx2:max n 0=n:=by omega
 have hx3:min n (1099511627776:Int)=n:=by omega
 go_in;go_wp2;go_ret;exact⟨rfl,HS.out⟩
theorem Ox (sb b:Nat)(hb:1≤b∧b≤1000)(w:World)(h:aj w sb 197 #[k1,k2,k3,qv,jv,nI b,.float .f64 0,s]):
  Calls Tryz.prog 183 #[.pointer (some ⟨sb,5,none⟩),.int .i64 1] w fun e w'=>e= .returned (.bool true)∧aj w' sb 197 #[k1,k2,k3,qv,jv,.int .i64 ((b:Int)-1),.float .f64 0,s]∧Mod [sb] w w':=by
 obtain⟨b0,b1⟩:=hb
 have hx1:¬(1:Int)>(b:Int):=by omega
 have c5:=h.cell 5;have c6:=h.cell 6;have f5:=h.frozen 5;have f6:=h.frozen 6;simp only[gl]at c5 c6;have hs:=(h.ak 5 (.int .i64 ((b:Int)-1)));simp only[pt]at hs;have HS:=qd (And.intro hs ((Mod.refl [sb] w).sl 5 (.int .i64 ((b:Int)-1))));clear h hs;go_in;go_wp2;go_ret;exact⟨rfl,HS.out⟩
theorem IC (sb:Nat)(w:World)(h:aj w sb 197 #[k1,k2,k3,qv,jv,.int .i64 0,.float .f64 0,s]):
  Calls Tryz.prog 183 #[.pointer (some ⟨sb,5,none⟩),.int .i64 1] w fun e w'=>e= .returned (.bool false)∧w=w':=by
 have c5:=h.cell 5;have c6:=h.cell 6;have f5:=h.frozen 5;have f6:=h.frozen 6;simp only[gl]at c5 c6;clear h;go_in;go_wp2;go_ret;exact⟨rfl,rfl⟩
theorem JI (sb:Nat)(b:Int)(w:World)(h:aj w sb 197 #[k1,k2,k3,qv,jv,.int .i64 b,.float .f64 0,s]):
  Calls Tryz.prog 229 #[.pointer (some ⟨sb,5,none⟩)] w fun e w'=>e= .returned (.int .i64 b)∧w=w':=by
 have c5:=h.cell 5;have c6:=h.cell 6;have f5:=h.frozen 5;have f6:=h.frozen 6;simp only[gl]at c5 c6;clear h;go_in;go_wp2;go_ret;exact⟨rfl,rfl⟩
end
section
variable {w : World} {first qb rb : Nat} {ids ring : List Nat}
theorem fI.put (h:fI w qb rb ring first ids){t:Nat}(ht:t<ids.length)(x:Nat):fI (w.setCell ⟨rb,(first+t) % 40,none⟩ (nI x)) qb rb (ring.set ((first+t) % 40) x) first (ids.set t x):=by
 have hm:=h.many;have hl:=h.len;have hf:=h.DF;refine⟨?_, ?_,by rw[List.length_set];exact hl,hf,by rw[List.length_set];exact hm,fun i hi=> ?_,h.ne⟩
 ·rw[List.length_set];exact h.blk.far (p:=⟨rb,(first+t) % 40,none⟩) h.ne _
 ·have:=h.row.ak ((first+t) % 40) (nI x)
  rwa [yh]at this
 ·rw[List.length_set]at hi;rw[List.getD_eq_getElem?_getD,List.getElem?_set,List.getD_eq_getElem?_getD (l:=ids.set t x),List.getElem?_set];by_cases hti:t=i
  ·subst hti;rw[if_pos rfl,if_pos rfl,if_pos (by omega),if_pos ht]
  ·rw[if_neg hti,if_neg (by omega),←List.getD_eq_getElem?_getD,←List.getD_eq_getElem?_getD];exact h.at_ i hi
def iU (ids:List Nat)(i:Nat):Nat→List Nat
 |0=>ids
 |k+1=>(iU ids i k).set (i+k) (ids.getD (i+k+1) 0)
theorem kT (ids:List Nat)(i:Nat):∀k,(iU ids i k).length=ids.length
 |0=>rfl
 |k+1=>by unfold iU;rw[List.length_set,kT ids i k]
theorem K9 (ids:List Nat)(i:Nat):∀(k:Nat),i+k<ids.length→∀(t:Nat),t<ids.length→(iU ids i k).getD t 0=if i≤t∧t<i+k then ids.getD (t+1) 0 else ids.getD t 0
 |0,_,t,_=>by rw[if_neg (by omega)];rfl
 |k+1,hk,t,ht=>by
  unfold iU;rw[List.getD_eq_getElem?_getD,List.getElem?_set,kT];by_cases h:i+k=t
  ·subst h;rw[if_pos rfl,if_pos (by omega),if_pos (by omega)];rfl
  ·rw[if_neg h,←List.getD_eq_getElem?_getD,K9 ids i k (by omega) t ht];by_cases h2:i≤t∧t<i+k
   ·rw[if_pos h2,if_pos (by omega)]
   ·rw[if_neg h2,if_neg (by omega)]
theorem IE {i:Nat}(hi:i<ids.length):(iU ids i (ids.length-(i+1))).take (ids.length-1)=ids.eraseIdx i:=by
 apply List.ext_getElem?;intro t;rw[List.getElem?_take,List.getElem?_eraseIdx];by_cases ht:t<ids.length-1
 ·rw[if_pos ht];have h1:=K9 ids i (ids.length-(i+1)) (by omega) t (by omega)
  have h2:t<(iU ids i (ids.length-(i+1))).length:=by rw[kT];omega
  rw[List.getD_eq_getElem?_getD,List.getElem?_eq_getElem h2]at h1;rw[List.getElem?_eq_getElem h2];by_cases h3:t<i
  ·rw[if_pos h3];rw[if_neg (by omega),List.getD_eq_getElem?_getD,List.getElem?_eq_getElem (show t<ids.length by omega)]at h1;rw[List.getElem?_eq_getElem (show t<ids.length by omega)];simpa using h1
  ·rw[if_neg h3];rw[if_pos (by omega),List.getD_eq_getElem?_getD,List.getElem?_eq_getElem (show t+1<ids.length by omega)]at h1;rw[List.getElem?_eq_getElem (show t+1<ids.length by omega)];simpa using h1
 ·rw[if_neg ht];by_cases h3:t<i
  ·omega
  ·rw[if_neg h3,List.getElem?_eq_none (by omega)]
theorem fI.shrink (h:fI w qb rb ring first ids):fI (w.setCell ⟨qb,2,none⟩ (.int .i64 ((ids.length-1:Nat):Int))) qb rb ring first (ids.take (ids.length-1)):=by
 have hm:=h.many
 have hlt:(ids.take (ids.length-1)).length=ids.length-1:=by rw[List.length_take];omega
 refine⟨?_,h.row.far (p:=⟨qb,2,none⟩) (Ne.symm h.ne) _,h.len,h.DF,by omega,fun i hi=> ?_,h.ne⟩
 ·rw[hlt];have:=h.blk.ak 2 (.int .i64 ((ids.length-1:Nat):Int));simpa using this
 ·rw[hlt]at hi;rw[h.at_ i (by omega),List.getD_eq_getElem?_getD,List.getD_eq_getElem?_getD,List.getElem?_take,if_pos hi]
theorem Ma {base n c:Nat}{e:TypeId}{A:Option Addr}{xs:List Value}(h:w.ownsRow base e 1 (.slice A n c) n xs)(hn:0<n):∃(g:Nat) (_:Nat),A=some ⟨g,0,none⟩∧base≤g∧g<w.heap.size∧n≤c:=by
 rcases h.2 with⟨_,hz⟩|⟨g,cap,cur,hv,hb,hg,hnc,_⟩
 ·omega
 ·cases hv;exact⟨g,0,rfl,hb,(Array.getElem?_eq_some_iff.1 hg).1,hnc⟩
theorem Oy (qb rb:Nat)(ring:List Nat)(first:Nat)(ids:List Nat)(id i:Nat)(hin:qV ids id=some i)(w:World)(h:fI w qb rb ring first ids):
  Calls Tryz.prog 231 #[qj qb,nI id] w fun e w'=>e= .returned (.bool true)∧(∃tq,fI w' qb rb tq first (ids.eraseIdx i))∧Mod [qb,rb] w w':=by
 have acv:=h.many;have hf:=h.DF
 have hil:i<ids.length:=by
  unfold qV at hin;rw[List.findIdx?_eq_some_iff_getElem]at hin;exact hin.1
 have fK:=qd (BD qb rb ring first ids w h);obtain⟨n,hn⟩:∃n,n=ids.length:=⟨_,rfl⟩;have HN:=qd hn;rw[←hn]at fK acv hil;unfold qj at fK⊢
 have hi0:(0:Int)≤(i:Int):=by omega
 have hi1:¬(i:Int)<0:=by omega
 have HQ:=qd (h);have ah:=qd (Mod.refl [qb,rb] w);clear h hn;go_in;have q1:=qJ HQ.out.lt HQ.out.K7;go_wp2_with fail;refine(fK.out).mono ?_;rintro y w1 ⟨A,c,rfl,hO,hb⟩;have HI:=qd (K8 A n c id ids (by omega) _ w1 hO);rw[hin]at HI;simp only[uF]at HI;clear hin fK;replace HQ:=qB hb HQ;have z3:=(hb).size;replace ah:=qT ah hb;clear hb;have HO:=qd (hO);clear hO;go_wp2_with fail;refine(HI.out).mono ?_;rintro y w2 ⟨rfl,rfl⟩;clear HI;obtain⟨g,c2,hA⟩:=Ma HO.out (by omega);obtain⟨rfl,hgb,hgl,hnc⟩:=hA
 have hw1:IntKind.i64.wrap ((i:Int)+1)=(i:Int)+1:=by rw[IntKind.wrap_i64];omega
 have hs0:(0:Int)≤(i:Int)+1:=by omega
 have hs1:(i:Int)+1≤(n:Int):=by omega
 have hs2:((i:Int)+1).toNat=i+1:=by omega
 by_cases hce:c=i+1
 ·obtain⟨mm,hmm⟩:∃mm,mm=n-(i+1):=⟨_,rfl⟩;have HCe:=qd hce;subst hce;go_wp2;go_loopw [7,8,21] (fun _ _ vi wr=>∃k:Nat,k≤n-(i+1)∧vi= .int .i64 k∧(∃rg,fI wr qb rb rg first (iU ids i k))∧wr.ownsRow w.heap.size 3 1 (.slice (some ⟨g,0,none⟩) n (i+1)) n (dD ids)∧Mod [qb,rb] w wr) (fun _ _ vi _=>(n-(i+1))-(intOf vi).toNat)
  case atStart=>exact⟨0,by omega,rfl,⟨ring,HQ.out⟩,HO.out,ah.out⟩
  case round=>
   clear HQ HO ah;obtain⟨k,hk,rfl,⟨rg,hQ⟩,hO,hm⟩:=hrel;have hnn:=HN.out;by_cases hlt:k<n-(i+1)
   ·exfalso;omega
   ·obtain rfl:k=n-(i+1):=by omega
    have hlt':¬((n-(i+1):Nat):Int)<((n-(i+1):Nat):Int):=by omega
    have hsl:(iU ids i (n-(i+1))).length=ids.length:=kT ids i _;have hs:=hQ.shrink;rw[hsl,←hnn,show(iU ids i (n-(i+1))).take (n-1)=ids.eraseIdx i from by rw[hnn];exact IE (by omega)]at hs;have c2:=hQ.blk.cell 2;have f2:=hQ.blk.frozen 2;simp only[gl]at c2;rw[hsl,←hnn]at c2
    have hw4:IntKind.i64.wrap ((n:Int)-1)=((n-1:Nat):Int):=by rw[IntKind.wrap_i64];omega
    have hw5:wrap64 ((n:Int)-1)=((n-1:Nat):Int):=by unfold wrap64;omega
    have HFin:=qd (And.intro (show∃tq,fI _ qb rb tq first (ids.eraseIdx i)from⟨rg,hs⟩) (hm.sl 2 (.int .i64 ((n-1:Nat):Int))));clear hQ hO hm hs hsl hnn;go_wp2;go_ret;exact⟨rfl,HFin.out⟩
 ·obtain⟨mm,hmm⟩:∃mm,mm=n-(i+1):=⟨_,rfl⟩;go_wp2;go_loopw [7,8,21] (fun _ _ vi wr=>∃k:Nat,k≤n-(i+1)∧vi= .int .i64 k∧(∃rg,fI wr qb rb rg first (iU ids i k))∧wr.ownsRow w.heap.size 3 1 (.slice (some ⟨g,0,none⟩) n c) n (dD ids)∧Mod [qb,rb] w wr) (fun _ _ vi _=>(n-(i+1))-(intOf vi).toNat)
  case atStart=>exact⟨0,by omega,rfl,⟨ring,HQ.out⟩,HO.out,ah.out⟩
  case round=>
   clear HQ HO ah;obtain⟨k,hk,rfl,⟨rg,hQ⟩,hO,hm⟩:=hrel;have hnn:=HN.out;by_cases hlt:k<n-(i+1)
   ·have hlt':(k:Int)<((n-(i+1):Nat):Int):=by omega
    have hk0:(0:Int)≤(k:Int):=by omega
    obtain⟨v,hv⟩:∃v,ids[i+1+k]?=some v:=⟨_,List.getElem?_eq_getElem (by omega)⟩;obtain⟨g',hg',_,_,hc,_⟩:=mM hO hv;cases hg'
    have hvd:ids.getD (i+k+1) 0=v:=by rw[List.getD_eq_getElem?_getD,show i+k+1=i+1+k by omega,hv];rfl
    have hsl:(iU ids i k).length=ids.length:=kT ids i k;have jP:=qd (fun V hV=>Gm qb rb rg first (iU ids i k) (i+k) (by omega) V hV)
    try simp only[nI]at jP
    rw[show((i+k:Nat):Int)=(i:Int)+(k:Int) by omega]at jP;have HPu:=qd (fun V (hV:fI V qb rb rg first (iU ids i k))=>hV.put (t:=i+k) (by omega) v);obtain⟨q,hq⟩:∃q,q=(first+(i+k)) % 40:=⟨_,rfl⟩;rw[←hq]at jP HPu
    have JG:q<40:=by omega
    have hq0:(0:Int)≤(q:Int):=by omega
    have hq1:(q:Int)<40:=by omega
    have hw3:IntKind.i64.wrap ((i:Int)+(k:Int))=(i:Int)+(k:Int):=by rw[IntKind.wrap_i64];omega
    have HVd:=qd hvd;unfold qj at jP;clear hv hvd hsl hq hnn;have HQ:=qd (hQ);have HO:=qd (hO);have ah:=qd (hm);clear hQ hO hm;have z1:=qJ ah.out.size (qJ HQ.out.lt HQ.out.K7);go_upto_region 8 with fail;have ce:=HQ.out.entry JG;have cf:=HQ.out.row.frozen q;have c0:=HQ.out.blk.cell 0;simp only[List.getElem?_toArray,List.getElem?_cons_zero]at c0;obtain⟨u,hu⟩:∃u,u=rg.getD q 0:=⟨_,rfl⟩;rw[←hu]at ce;clear hu;refine rT (fun(w':World)=>w'.cell? ⟨qb,0,none⟩=some (.slice (some ⟨rb,0,none⟩) 40 40)) [11] ?_;have hHeld:=c0;refine vW 0 rfl ?_;refine vW 1 rfl ?_;refine vW 2 rfl ?_;refine vT 3 rfl ?_;refine vW 4 rfl ?_;refine vW 5 rfl ?_;refine vW 6 rfl ?_;refine vW 7 rfl ?_;refine vW 9 rfl ?_;refine nT 8 rfl fun K hK=> ?_;go_simp;refine(jP.out _ (HQ.out.mod (Mod.drewN [] wr 1) (by simp) (by simp))).mono ?_;rintro y w3 ⟨rfl,acw⟩;have hm:Mod [] wr w3:=acw▸Mod.drewN [] wr 2;clear acw hc ce cf c0;replace HQ:=qM hm HQ;replace HO:=qM hm HO;have z4:=(hm).size;replace ah:=qU ah hm;clear hm;have ce:=HQ.out.entry JG;have cf:=HQ.out.row.frozen q;have c0:=HQ.out.blk.cell 0;simp only[List.getElem?_toArray,List.getElem?_cons_zero]at c0;obtain⟨u,hu⟩:∃u,u=rg.getD q 0:=⟨_,rfl⟩;rw[←hu]at ce;clear hu;go_wp2_with fail;have hHeld:=c0;refine kO hK ?_;clear hK K;refine vW 10 rfl ?_;refine nT 11 rfl fun K hK=> ?_;go_simp;refine kO hK ?_;clear hK K;refine aR (by kernel_rfl) ?_ _;have j4:=qd (show iU ids i (k+1)=(iU ids i k).set (i+k) v from by rw[←HVd.out];rfl)
    refine bV (F:=fun V=>fI V qb rb (rg.set q v) first (iU ids i (k+1))∧Mod [rb] w3 V) ⟨by rw[j4.out];exact HPu.out _ HQ.out,(Mod.refl [rb] w3).sl q (nI v)⟩ ?_;rintro w4 ⟨hQ4,hm⟩;clear HQ ce cf c0;replace HO:=qM hm HO;have z5:=(hm).size;replace ah:=qU ah hm;have HQ4:=qd hQ4;clear hQ4 hm;go_wp2;go_roundw
    case rel=>exact⟨k+1,by omega,by go_num,⟨_,HQ4.out⟩,HO.out,ah.out⟩
    case measure=>simp[intOf];omega
   ·obtain rfl:k=n-(i+1):=by omega
    have hlt':¬((n-(i+1):Nat):Int)<((n-(i+1):Nat):Int):=by omega
    have hsl:(iU ids i (n-(i+1))).length=ids.length:=kT ids i _;have hs:=hQ.shrink;rw[hsl,←hnn,show(iU ids i (n-(i+1))).take (n-1)=ids.eraseIdx i from by rw[hnn];exact IE (by omega)]at hs;have c2:=hQ.blk.cell 2;have f2:=hQ.blk.frozen 2;simp only[gl]at c2;rw[hsl,←hnn]at c2
    have hw4:IntKind.i64.wrap ((n:Int)-1)=((n-1:Nat):Int):=by rw[IntKind.wrap_i64];omega
    have hw5:wrap64 ((n:Int)-1)=((n-1:Nat):Int):=by unfold wrap64;omega
    have HFin:=qd (And.intro (show∃tq,fI _ qb rb tq first (ids.eraseIdx i)from⟨rg,hs⟩) (hm.sl 2 (.int .i64 ((n-1:Nat):Int))));clear hQ hO hm hs hsl hnn;go_wp2;go_ret;exact⟨rfl,HFin.out⟩
end
section
variable {ops : Array Oper} {rest : List Oper} {o : Oper} {a : Act} {Q : Exit → Act → World → Prop}
def MB (v:Value):Option (DataW Value×List MemPlace):=some (.held v,[])
def iN (w:World)(b n:Nat)(f:Int→Option Value):Prop:=
 ∃D:DataW Value,w.ownsMap Tryz.prog 3 MB b n D∧size D=n∧∀x,(Lit.int .i64 x).wf=true→has D (.int .i64 x)=(f x).isSome∧∀v,f x=some v→∀z,D.atKey (.int .i64 x) z= .held v
theorem jd:Tryz.prog.underlying 3 =some (.int .i64):=by kernel_rfl
theorem xg:Tryz.prog.underlying 195 =some (.map 3 265):=by kernel_rfl
theorem Oz (w:World):(zeroValue 265).run Tryz.prog w= .ok .nilIface w:=by kernel_rfl
theorem IG {w w':World}{b:Nat}(h:w.mapTurned w' b):Mod [b] w w':=by
 have hg:=h.grown;exact⟨hg.os,hg.tape,hg.output,hg.size,fun k hk hn=>hg.block k hk (fun e=>hn (by injection e with e;simp[e]))⟩
section
variable {b n : Nat} {f : Int → Option Value} {w w' : World}
theorem iN.made (w:World):iN (w.alloc (.map #[] 0)) w.heap.size 0 (fun _=>none):=
 ⟨_,World.ownsMap_made w _ _ _,rfl,fun x _=>⟨rfl,fun v hv=>by cases hv⟩⟩
theorem iN.lt (h:iN w b n f):b<w.heap.size:=by
 obtain⟨D,h1,_⟩:=h;exact h1.lt
theorem iN.mod {S:List Nat}(h:iN w b n f)(hm:Mod S w w')(hb:b∉S):iN w' b n f:=by
 have hlt:=h.lt;obtain⟨D,⟨es,clock,hh,r⟩,h2⟩:=h;exact⟨D,⟨es,clock,(hm.block b hlt hb).trans hh,r⟩,h2⟩
instance {w w':World}{b n:Nat}{f:Int→Option Value}:Md (iN w b n f) w w' (iN w' b n f) (fun S=>b∉S):=⟨fun h hm hs=>h.mod hm hs⟩
theorem iN.congr {g:Int→Option Value}(h:iN w b n f)(he:∀x,f x=g x):iN w b n g:=by
 obtain rfl:f=g:=funext he;exact h
theorem Gn {v u:Value}{ps:List MemPlace}(h:MB v=some (.held u,ps)):v=u:=by
 unfold MB at h
 injection h with h
 injection h with h1 h2
 injection h1
theorem Cq (hg:o.guard=none)(m x:Operand)(hop:o.op=Op.lookup 195 m x true)(hm:a.eval m= .map (some b))(hown:iN w b n f)(xv:Int)(hx:a.eval x= .int .i64 xv)(hw:(Lit.int .i64 xv).wf=true)(hK:wpList Tryz.prog ops Q rest (a.put o.dst (.tuple #[(f xv).getD .nilIface,.bool (f xv).isSome])) w):
  wpList Tryz.prog ops Q (o::rest) a w:=by
 obtain⟨D,h1,h0,h2⟩:=hown;obtain⟨h3,h4⟩:=h2 xv hw;refine wpList_lookup_own_ok w hg m x _ hop _ _ (int_keyed jd) xg MB (Oz w) (.held .nilIface) [] rfl b n D hm h1 _ _ hx (keyOf_int_mk jd hw) fun v ps hv=> ?_;rw[h3]
 cases hf:f xv with
 |some u=>
  rw[h4 u hf]at hv;obtain rfl:=Gn hv;rw[hf]at hK;exact hK
 |none=>
  rw[hf]at h3;rw[atKey_of_not_has h3]at hv;obtain rfl:=Gn hv;rw[hf]at hK;exact hK
theorem xq (hg:o.guard=none)(m x:Operand)(hop:o.op=Op.lookup 195 m x false)(hm:a.eval m= .map (some b))(hown:iN w b n f)(xv:Int)(hx:a.eval x= .int .i64 xv)(hw:(Lit.int .i64 xv).wf=true)(v:Value)(hf:f xv=some v)(hK:wpList Tryz.prog ops Q rest (a.put o.dst v) w):
  wpList Tryz.prog ops Q (o::rest) a w:=by
 obtain⟨D,h1,h0,h2⟩:=hown;obtain⟨h3,h4⟩:=h2 xv hw;refine wpList_plain hg fun K' hK'=> ?_;obtain⟨u,ps,hrun,hv⟩:=h1.lookup (int_keyed jd) xg (Oz w) (zd:= .held .nilIface) (zp:=[]) rfl (keyOf_int_mk jd hw);rw[h4 v hf]at hv;obtain rfl:=Gn hv;unfold Oper.wp;simp[execOp,hop,hm,hx,hrun,Result.andThen];exact hK' _ _ hK
theorem Gp (hg:o.guard=none)(m x v:Operand)(hop:o.op=Op.mapUpdate 195 m x v)(hm:a.eval m= .map (some b))(hown:iN w b n f)(hn:n<maxLen)(xv:Int)(vv:Value)(hx:a.eval x= .int .i64 xv)(hv:a.eval v=vv)(hw:(Lit.int .i64 xv).wf=true)(hf:f xv=none)(hK:∀w',iN w' b (n+1) (fun y=>if y=xv then some vv else f y)→Mod [b] w w'→wpList Tryz.prog ops Q rest (a.put o.dst undef) w'):
  wpList Tryz.prog ops Q (o::rest) a w:=by
 obtain⟨D,h1,h0,h2⟩:=hown;have hD:IsMap D:=h1.isMap;have hT:Tidy D:=h1.tidy (int_keyed jd);refine wpList_mapUpdate_in w hg m x v _ hop _ _ (int_keyed jd) xg _ b n D hm h1 hn _ _ _ hx hv (keyOf_int_mk jd hw) (.held vv) [] rfl fun w' h3 h4=>hK w' ⟨_,h3, ?_,fun y hy=> ?_⟩ (IG h4)
 ·rw[size_put hT,if_neg (by rw[(h2 xv hw).1,hf];simp),h0]
 have hkl:WideAt.IsKeyLit (.int .i64 xv):=(int_keyed jd).key (keyOf_int_mk jd hw);by_cases hyx:y=xv
 ·subst hyx;refine⟨?_,fun u hu z=> ?_⟩
  ·rw[has_put_same hD hkl];simp
  ·rw[atKey_put_same hD hkl];simp at hu;rw[hu]
 ·have hne:(Lit.int .i64 y)≠ .int .i64 xv:=fun e=>hyx (by injection e);obtain⟨h5,h6⟩:=h2 y hy;simp only[hyx,if_false];refine⟨by rw[has_put_other hne];exact h5,fun u hu z=> ?_⟩;rw[atKey_put_other hne];exact h6 u hu z
theorem EG (hg:o.guard=none)(m x:Operand)(hop:o.op=Op.call {callee:=Callee.builtin Builtin.delete,args:= #[m,x],argTypes:= #[195,3]})(hm:a.eval m= .map (some b))(hown:iN w b n f)(xv:Int)(hx:a.eval x= .int .i64 xv)(hw:(Lit.int .i64 xv).wf=true)(hK:∀w',iN w' b (n-if(f xv).isSome then 1 else 0) (fun y=>if y=xv then none else f y)→Mod [b] w w'→wpList Tryz.prog ops Q rest (a.put o.dst (.tuple #[])) w'):
  wpList Tryz.prog ops Q (o::rest) a w:=by
 obtain⟨D,h1,h0,h2⟩:=hown;have hT:Tidy D:=h1.tidy (int_keyed jd);refine wpList_delete_own w hg m x _ _ hop _ (int_keyed jd) xg _ b n D hm h1 _ _ hx (keyOf_int_mk jd hw) fun w' h3 h4=>hK w' ⟨D.del (.int .i64 xv), ?_, ?_,fun y hy=> ?_⟩ (IG h4)
 ·have hs:=size_del (k:= .int .i64 xv) hT;rw[(h2 xv hw).1]at hs;obtain⟨es,clock,hb,F,_,hD⟩:=h3;refine⟨es,clock,hb,F, ?_,hD⟩
  have e1:size (D.del (.int .i64 xv))=es.size:=by rw[hD];simp[size,length_sorted]
  omega
 ·have hs:=size_del (k:= .int .i64 xv) hT;rw[(h2 xv hw).1]at hs;omega
 by_cases hyx:y=xv
 ·subst hyx;refine⟨?_,fun u hu z=> ?_⟩
  ·rw[has_del_same];simp
  ·simp at hu
 ·have hne:(Lit.int .i64 y)≠ .int .i64 xv:=fun e=>hyx (by injection e);obtain⟨h5,h6⟩:=h2 y hy;simp only[hyx,if_false];refine⟨by rw[has_del_other hne];exact h5,fun u hu z=> ?_⟩;rw[atKey_del_other hne];exact h6 u hu z
end
end
section
variable {t : TypeId}
def zJ (t:TypeId):Prop:=t=135 ∨t=145
def jy (t:TypeId):FuncId:=if t=135 then 299 else 232
def xu (t:TypeId):FuncId:=if t=135 then 300 else 318
theorem rX (h:zJ t)(a:Addr)(n:Nat)(w:World):(method (n+1) t (.pointer (some a)) "Left").run Tryz.prog w= .ok (jy t,.pointer (some a)) w:=by
 rcases h with rfl|rfl<;>kernel_rfl
theorem V4 (h:zJ t)(a:Addr)(n:Nat)(w:World):(method (n+1) t (.pointer (some a)) "Step").run Tryz.prog w= .ok (xu t,.pointer (some a)) w:=by
 rcases h with rfl|rfl<;>kernel_rfl
theorem rY (h:zJ t)(args:Array Value)(w:World):(callFunc (jy t) args).run Tryz.prog w= .ok (.enter (jy t) args) w:=by
 rcases h with rfl|rfl<;>kernel_rfl
theorem V5 (h:zJ t)(args:Array Value)(w:World):(callFunc (xu t) args).run Tryz.prog w= .ok (.enter (xu t) args) w:=by
 rcases h with rfl|rfl<;>kernel_rfl
def eG (b:Nat):Value:=pQ b
def mO (w:World)(sb qb jb:Nat)(k b s:Int):Prop:=aj w sb 197 #[.int .i64 k,.int .i64 1,.int .i64 1,pQ qb,.map (some jb),.int .i64 b,.float .f64 0,.int .i64 s]
section
variable {w w' : World} {sb qb jb : Nat} {k b s : Int}
theorem mO.lt (h:mO w sb qb jb k b s):sb<w.heap.size:=aj.lt h
theorem mO.mod {S:List Nat}(h:mO w sb qb jb k b s)(hm:Mod S w w')(hs:sb∉S):mO w' sb qb jb k b s:=aj.mod h hm hs
instance {w w':World}{sb qb jb:Nat}{k b s:Int}:Md (mO w sb qb jb k b s) w w' (mO w' sb qb jb k b s) (fun S=>sb∉S):=⟨fun h hm hs=>mO.mod h hm hs⟩
end
theorem Tm (sb qb jb:Nat)(k b s n:Int)(hn:0≤n∧n≤1000)(w:World)(h:mO w sb qb jb k b s):
  Calls Tryz.prog 168 #[eG sb,.int .i64 n] w fun e w'=>e= .returned undef∧mO w' sb qb jb k n s∧Mod [sb] w w':=by
 unfold mO at h⊢;have HB:=qd h;have ah:=qd (Mod.refl [sb] w);have HS:=qd (h);unfold eG;have c5:=h.cell 5;clear h HB c5;go_in;go_wp2_with fail;refine(Qe sb b w HS.out).mono ?_;rintro x w1 ⟨rfl,hs,hm⟩;replace HS:=qd hs;have hz:=hm.size;replace ah:=qd hm;clear hs hm;go_wp2_with fail;refine(JH sb n hn w1 HS.out).mono ?_;rintro x w2 ⟨rfl,hs,hm⟩;replace ah:=qd (ah.out.then hm);replace HS:=qd hs;clear hs hm;go_wp2;go_end0;exact⟨rfl,HS.out,ah.out⟩
theorem II (sb:Nat)(t:TypeId)(a:Addr)(m:Value)(w:World)(hj:zJ t)(hL:Calls Tryz.prog (jy t) #[.pointer (some a)] w fun e w'=>e= .returned (.int .i64 0)∧Below w.heap.size w w'):
  Calls Tryz.prog 170 #[eG sb,m,.iface t (.pointer (some a))] w fun e w'=>e= .returned (.bool false)∧Below w.heap.size w w':=by
 have HJ:=qd hj;have HL:=qd hL;obtain⟨F,hF⟩:∃F,F=jy t:=⟨_,rfl⟩;rw[←hF]at HL;have HF:=qd hF.symm;unfold eG;clear hj hL hF;go_in;go_upto_region 1 with fail;go_wp2_with fail;rw[rX HJ.out,Result.andThen_ok,rY HJ.out];rw[show jy t=F from HF.out];rw[Oper.upon_enter];refine HL.out.mono ?_;rintro x w1 ⟨rfl,hb⟩;have HB:=qd hb;clear hb;go_wp2;go_ret;exact⟨rfl,HB.out⟩
theorem Gq (sb qb jb:Nat)(k s:Int)(l:Nat)(hl:1≤l)(t:TypeId)(a:Addr)(m:Value)(w:World)(hj:zJ t)(hL:Calls Tryz.prog (jy t) #[.pointer (some a)] w fun e w'=>e= .returned (nI l)∧Below w.heap.size w w')(h:mO w sb qb jb k 0 s):
  Calls Tryz.prog 170 #[eG sb,m,.iface t (.pointer (some a))] w fun e w'=>e= .returned (.bool false)∧Below w.heap.size w w':=by
 have hl1:¬(l:Int)<1:=by omega
 have HS:=qd h;have hlt:=h.lt;clear h hl;have HJ:=qd hj;have HL:=qd hL;obtain⟨F,hF⟩:∃F,F=jy t:=⟨_,rfl⟩;rw[←hF]at HL;have HF:=qd hF.symm;unfold eG;clear hj hL hF;go_in;go_upto_region 1 with fail;go_wp2_with fail;rw[rX HJ.out,Result.andThen_ok,rY HJ.out];rw[show jy t=F from HF.out];rw[Oper.upon_enter];refine HL.out.mono ?_;rintro x w1 ⟨rfl,hb⟩;replace HS:=qB hb HS;have HB:=qd hb;clear hb;have HC:=qd (IC sb w1 HS.out);go_wp2_with fail;refine HC.out.mono ?_;rintro x w2 ⟨rfl,rfl⟩;go_wp2;go_ret;exact⟨rfl,HB.out⟩
theorem Tn (sb qb jb:Nat)(k s:Int)(b l:Nat)(hl:1≤l)(hb:b≤999)(t:TypeId)(a:Addr)(m:Value)(Post:World→World→Prop)(w:World)(hj:zJ t)(hL:Calls Tryz.prog (jy t) #[.pointer (some a)] w fun e w'=>e= .returned (nI l)∧Below w.heap.size w w')(h:mO w sb qb jb k ((b+1:Nat):Int) s)(hS:∀V,Mod [sb] w V→mO V sb qb jb k (b:Int) (wrap64 (s+1))→Calls Tryz.prog (xu t) #[.pointer (some a),m] V fun e V'=>e= .returned (.bool true)∧Post V V'):
  Calls Tryz.prog 170 #[eG sb,m,.iface t (.pointer (some a))] w fun e w'=>e= .returned (.bool true)∧∃V,Mod [sb] w V∧mO V sb qb jb k (b:Int) (wrap64 (s+1))∧Post V w':=by
 have hl1:¬(l:Int)<1:=by omega
 have HS:=qd h;have lC:=qd hS;have hlt:=h.lt;obtain⟨Fs,zf⟩:∃F,F=xu t:=⟨_,rfl⟩;rw[←zf]at lC;have HFs:=qd zf.symm;clear h hl hS zf;have HJ:=qd hj;have HL:=qd hL;obtain⟨F,hF⟩:∃F,F=jy t:=⟨_,rfl⟩;rw[←hF]at HL;have HF:=qd hF.symm;unfold eG;clear hj hL hF;go_in;go_upto_region 1 with fail;go_wp2_with fail;rw[rX HJ.out,Result.andThen_ok,rY HJ.out];rw[show jy t=F from HF.out];rw[Oper.upon_enter];refine HL.out.mono ?_;rintro x w1 ⟨rfl,hb⟩;replace HS:=qB hb HS;have ah:=qd (Mod.of_below hb [sb]);clear hb;have HC:=qd (Ox sb (b+1) (by omega) w1 HS.out);go_wp2_with fail;refine HC.out.mono ?_;rintro x w2 ⟨rfl,hs,hm⟩;replace ah:=qd (ah.out.then hm);clear HC hm
 have hs2:mO w2 sb qb jb k (b:Int) s:=by
  unfold mO
  try simp only[nI]at hs
  rw[show(((b+1:Nat):Int)-1)=(b:Int) by omega]at hs;exact hs
 replace HS:=qd hs2;clear hs hs2;have c7:=aj.cell HS.out 7;have f7:=aj.frozen HS.out 7;simp only[gl]at c7;have hsp:=aj.ak HS.out 7 (.int .i64 (wrap64 (s+1)));simp only[pt]at hsp;replace HS:=qd (show mO (w2.setCell ⟨sb,7,none⟩ (.int .i64 (wrap64 (s+1)))) sb qb jb k (b:Int) (wrap64 (s+1))from hsp);replace ah:=qd (ah.out.sl 7 (.int .i64 (wrap64 (s+1))));clear hsp;replace lC:=qd (lC.out _ ah.out HS.out);go_wp2_with fail;rw[V4 HJ.out,Result.andThen_ok,V5 HJ.out];rw[show xu t=Fs from HFs.out];rw[Oper.upon_enter];refine lC.out.mono ?_;rintro x w3 ⟨rfl,hp⟩;have HP:=qd hp;clear hp c7 f7;go_wp2;go_ret;exact⟨rfl,_,ah.out,HS.out,HP.out⟩
end
end Go.Proofs.YtnfjjbpmhcbelaaGreatDoor
