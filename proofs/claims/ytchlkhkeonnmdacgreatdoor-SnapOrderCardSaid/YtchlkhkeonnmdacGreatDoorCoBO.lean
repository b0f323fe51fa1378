/- A queue's Has, Push, Remove by their contracts. -/
import Derived.Test.YtchlkhkeonnmdacGreatDoorCoBL
import Derived.Test.YtchlkhkeonnmdacGreatDoorSqT
import Derived.Test.YtchlkhkeonnmdacGreatDoorLaneP
namespace Go.Proofs.YtchlkhkeonnmdacGreatDoor
set_option maxRecDepth 100000
set_option maxHeartbeats 4000000
open Go.RowKit AmC
def idxN (l:List Nat)(v:Nat):Option Nat:=l.findIdx? fun x=>x==v
theorem idx_first {l:List Nat}{v j:Nat}(h:l[j]?=some v)(hn:v∉l.take j):idxN l v=some j:=by
 obtain⟨hj,hv⟩:=List.getElem?_eq_some_iff.1 h;unfold idxN;rw[List.findIdx?_eq_some_iff_getElem];refine⟨hj,by simp[hv],fun k hk=> ?_⟩
 have hkl:k<l.length:=by omega
 simp only[Bool.not_eq_true,beq_eq_false_iff_ne];intro e;exact hn (List.mem_take_iff_getElem.2 ⟨k,by omega,e⟩)
theorem idx_not {l:List Nat}{v:Nat}(hn:v∉l):idxN l v=none:=by
 unfold idxN;rw[List.findIdx?_eq_none_iff];intro x hx;simp only[beq_eq_false_iff_ne];rintro rfl;exact hn hx
theorem index_int (A:Option Addr)(n c v:Nat)(l:List Nat)(hn:n≤1000)(base:Nat)(w:World)(h:w.ownsRow base 3 1 (.slice A n c) n (intVals l)):
  Calls Tryz.prog 215 #[.slice A n c,.int .i64 (v:Int)] w fun e w'=>e= .returned (.int .i64 (optI (idxN l v)))∧w=w':=by
 have hl:l.length=n:=by simpa[intVals]using h.1
 have HL:=qd hl;have HR:=qd h;clear hl h;go_in;go_wp2;go_loop [4,5,8] (fun _ _ i=>∃j:Nat,j≤n∧i= .int .i64 j∧v∉l.take j) (fun _ _ i=>n-(intOf i).toNat)
 case atStart=>exact⟨0,by omega,rfl,by simp⟩
 case round=>
  obtain⟨j,hj,rfl,hv⟩:=hrel;have hll:=HL.out;by_cases hlt:j<n
  ·have hlt':(j:Int)<(n:Int):=by omega
   have hj0:(0:Int)≤(j:Int):=by omega
   obtain⟨u,hu⟩:∃u,l[j]?=some u:=⟨_,List.getElem?_eq_getElem (by omega)⟩;obtain⟨g,rfl,_,_,hc,_⟩:=intVals_cell HR.out hu;by_cases he:v=u
   ·subst he;have HE:=qd (idx_first hu hv);clear hv hu hll;go_wp2;go_ret;exact⟨by rw[HE.out];rfl,rfl⟩
   ·have he':¬(v:Int)=(u:Int):=by omega
    have HV:=qd (show v∉l.take (j+1)from by rw[take_nx hu];simp only[List.mem_append,List.mem_singleton,not_or];exact⟨hv,he⟩);clear hv hu hll he;go_wp2;go_round
    case rel=>exact⟨j+1,by omega,by go_num,HV.out⟩
    case measure=>simp[intOf];omega
  ·obtain rfl:j=n:=by omega
   have hlt':¬(j:Int)<(j:Int):=by omega
   have HE:=qd (idx_not (l:=l) (v:=v) (by rwa [←hll,List.take_length]at hv));clear hv hll;go_wp2;go_ret;exact⟨by rw[HE.out];rfl,rfl⟩
theorem contains_int (A:Option Addr)(n c v:Nat)(l:List Nat)(hn:n≤1000)(base:Nat)(w:World)(h:w.ownsRow base 3 1 (.slice A n c) n (intVals l)):
  Calls Tryz.prog 226 #[.slice A n c,.int .i64 (v:Int)] w fun e w'=>e= .returned (.bool (idxN l v).isSome)∧w=w':=by
 have HI:=qd (index_int A n c v l hn base w h);clear h
 cases hx:idxN l v with
 |none=>
  rw[hx]at HI;simp only[optI]at HI;clear hx;go_in;go_wp2_with fail;refine(HI.out).mono ?_;rintro y w1 ⟨rfl,rfl⟩;go_wp2;go_ret;exact⟨rfl,rfl⟩
 |some j=>
  rw[hx]at HI;simp only[optI]at HI
  have hj:(0:Int)≤(j:Int):=by omega
  clear hx;go_in;go_wp2_with fail;refine(HI.out).mono ?_;rintro y w1 ⟨rfl,rfl⟩;go_wp2;go_ret;exact⟨rfl,rfl⟩
theorem queue_Has (qb rb:Nat)(ring:List Nat)(first:Nat)(ids:List Nat)(id:Nat)(w:World)(h:QuIn w qb rb ring first ids):
  Calls Tryz.prog 211 #[quP qb,.int .i64 (id:Int)] w fun e w'=>e= .returned (.bool (idxN ids id).isSome)∧Below w.heap.size w w':=by
 have hmn:=h.many;have HLs:=qd (queue_list qb rb ring first ids w h);unfold quP at HLs⊢;clear h;go_in;go_wp2_with fail;refine(HLs.out).mono ?_;rintro y w1 ⟨A,c,rfl,hO,hb⟩;have HC:=qd (contains_int A ids.length c id ids (by omega) _ w1 hO);have HB:=qd hb;clear hO hb;go_wp2_with fail;refine(HC.out).mono ?_;rintro y w2 ⟨rfl,rfl⟩;go_wp2;go_ret;exact⟨rfl,HB.out⟩
theorem queue_Push (qb rb:Nat)(ring:List Nat)(first:Nat)(ids:List Nat)(id:Nat)(hnin:idxN ids id=none)(hroom:ids.length<40)(w:World)(h:QuIn w qb rb ring first ids):
  Calls Tryz.prog 184 #[quP qb,.int .i64 (id:Int)] w fun e w'=>e= .returned .nilIface∧∃ring',QuIn w' qb rb ring' first (ids++[id])∧Mod [qb,rb] w w':=by
 have hm40:=h.many;have hf:=h.lt40;have HHs:=qd (queue_Has qb rb ring first ids id w h);rw[hnin]at HHs;simp only[Option.isSome_none]at HHs;obtain⟨n,hn⟩:∃n,n=ids.length:=⟨_,rfl⟩;have HN:=qd hn;have HAt:=qd (fun V hV=>queue_at qb rb ring first ids n (by omega) V hV);obtain⟨q,hq⟩:∃q,q=(first+n) % 40:=⟨_,rfl⟩;have HQq:=qd hq;rw[←hq]at HAt
 have hq40:q<40:=by omega
 have hq0:(0:Int)≤(q:Int):=by omega
 have hq1:(q:Int)<40:=by omega
 have hn40:¬(n:Int)=40:=by omega
 have hn41:¬n=40:=by omega
 have hn39:n≤39:=by omega
 unfold quP at HHs HAt⊢;have hQw:=h.lt;clear hq hn hroom hnin;have HQ:=qd (h);have Hmod:=qd (Mod.refl [qb,rb] w);clear h;go_in;go_wp2_with fail;refine(HHs.out).mono ?_;rintro x w1 ⟨rfl,hb⟩;replace HQ:=qB hb HQ;have z1:=(hb).size;replace Hmod:=qT Hmod hb;clear hb HHs;have ce:=HQ.out.entry hq40;have cf:=HQ.out.row.frozen q;have c0:=HQ.out.blk.cell 0;have c2:=HQ.out.blk.cell 2;have f2:=HQ.out.blk.frozen 2;simp only[gl]at c0 c2;rw[←HN.out]at c2;obtain⟨u,hu⟩:∃u,u=ring.getD q 0:=⟨_,rfl⟩;rw[←hu]at ce;clear hu;go_upto_region 3 with fail;refine rT (fun(w':World)=>w'.cell? ⟨qb,0,none⟩=some (.slice (some ⟨rb,0,none⟩) 40 40)∧w'.cell? ⟨qb,2,none⟩=some (.int .i64 (n:Int))) [] ?_;have hHeld:=(⟨c0,c2⟩:_∧_);refine vW 0 rfl ?_;refine vW 1 rfl ?_;refine vW 2 rfl ?_;refine vT 3 rfl ?_;refine vW 4 rfl ?_;refine vW 5 rfl ?_;refine vW 6 rfl ?_;refine vT 7 rfl ?_;refine vW 8 rfl ?_;refine vW 9 rfl ?_;refine vW 10 rfl ?_;refine doneT (by kernel_rfl) ?_ _;refine nameW (F:=fun v=>Mod [] w1 v) (Mod.drewN [] w1 1) ?_;rintro w2 hm;clear ce cf c0 c2 f2;replace HQ:=qM hm HQ;have z2:=(hm).size;replace Hmod:=qU Hmod hm;clear hm;have ce:=HQ.out.entry hq40;have cf:=HQ.out.row.frozen q;have c0:=HQ.out.blk.cell 0;have c2:=HQ.out.blk.cell 2;have f2:=HQ.out.blk.frozen 2;simp only[gl]at c0 c2;rw[←HN.out]at c2;obtain⟨u,hu⟩:∃u,u=ring.getD q 0:=⟨_,rfl⟩;rw[←hu]at ce;clear hu;go_upto_region 5 with fail
 refine rT (fun(w':World)=>w'.cell? ⟨qb,0,none⟩=some (.slice (some ⟨rb,0,none⟩) 40 40)∧w'.cell? ⟨qb,2,none⟩=some (.int .i64 (n:Int))) [12] ?_;have hHeld:=(⟨c0,c2⟩:_∧_);refine vW 0 rfl ?_;refine vW 1 rfl ?_;refine vW 2 rfl ?_;refine vT 3 rfl ?_;refine vW 4 rfl ?_;refine vW 5 rfl ?_;refine vW 6 rfl ?_;refine vW 7 rfl ?_;refine vT 8 rfl ?_;refine vW 10 rfl ?_;refine nT 9 rfl fun K hK=> ?_;go_simp;refine(HAt.out _ (HQ.out.mod (Mod.drewN [] w2 1) (by simp) (by simp))).mono ?_;rintro y w3 ⟨rfl,hw3⟩;have hm:Mod [] w2 w3:=hw3▸Mod.drewN [] w2 2;clear hw3 ce cf c0 c2 f2;replace HQ:=qM hm HQ;have z3:=(hm).size;replace Hmod:=qU Hmod hm;clear hm;have ce:=HQ.out.entry hq40;have cf:=HQ.out.row.frozen q;have c0:=HQ.out.blk.cell 0;have c2:=HQ.out.blk.cell 2;have f2:=HQ.out.blk.frozen 2;simp only[gl]at c0 c2;rw[←HN.out]at c2;obtain⟨u,hu⟩:∃u,u=ring.getD q 0:=⟨_,rfl⟩;rw[←hu]at ce;clear hu;go_wp2_with fail;have hHeld:=(⟨c0,c2⟩:_∧_);refine kO hK ?_;clear hK K;refine vW 11 rfl ?_;refine nT 12 rfl fun K hK=> ?_;go_simp;refine kO hK ?_;clear hK K;refine doneT (by kernel_rfl) ?_ _;have hB:=HQ.out.blk;have hR:=HQ.out.row;have hRs:=hR.set_ q (.int .i64 (id:Int));rw[intCells_set]at hRs;have hBs:=hB.far (p:=⟨rb,q,none⟩) HQ.out.ne (.int .i64 (id:Int));have hmm:=(Mod.refl [rb] w3).sl q (.int .i64 (id:Int));have HQo:=qd HQ.out
 refine nameW (F:=fun v=>(Blk v qb 231 #[.slice (some ⟨rb,0,none⟩) 40 40,.int .i64 (first:Int),.int .i64 (n:Int)]∧Blk v rb 3 (intCells (ring.set q id)))∧Mod [rb] w3 v) ⟨⟨by rw[HN.out];exact hBs,hRs⟩,hmm⟩ ?_;clear hB hR hRs hBs hmm ce cf c0 c2 f2 HQ;rintro w4 ⟨⟨hB,hR⟩,hm⟩;replace Hmod:=qd (Hmod.out.then (hm.more (by simp)));clear hm;have HB:=qd (hB);have HR:=qd (hR);clear hB hR;have bc:=HB.out.c3;have bf:=HB.out.f3;go_upto_region 7 with fail;have hqr:=HQo.out.ne;have q4:=qJ HB.out.lt HR.out.lt;refine qS1 HB.out ?_;rintro w5 ⟨hnew,hm⟩;simp only[pt]at hnew;replace HR:=qM hm HR;have z6:=(hm).size;replace Hmod:=qU Hmod hm;replace HB:=qd hnew;clear hnew hm
 have HFin:=qd (show QuIn w5 qb rb (ring.set q id) first (ids++[id])from by
  have h0:=HQo.out;have hnn:=HN.out;have hqq:=HQq.out;refine⟨?_,HR.out,by rw[List.length_set];exact h0.len,h0.lt40,by rw[List.length_append];simp;omega,fun i hi=> ?_,h0.ne⟩
  ·have hb:=HB.out;rw[List.length_append,List.length_singleton,←hnn];exact hb
  ·rw[List.length_append,List.length_singleton]at hi;rw[List.getD_eq_getElem?_getD,List.getElem?_set,List.getD_eq_getElem?_getD (l:=ids++[id])];by_cases hin:i<ids.length
   ·rw[if_neg (by omega),List.getElem?_append_left hin,←List.getD_eq_getElem?_getD,←List.getD_eq_getElem?_getD];exact h0.at_ i hin
   ·have hi2:i=ids.length:=by omega
    have hlr:=h0.len;rw[if_pos (by rw[hqq,hnn,hi2]),if_pos (by omega),List.getElem?_append_right (by omega),hi2]
    simp)
 go_wp2;go_ret
 first|exact⟨rfl,⟨_,HFin.out⟩,Hmod.out⟩|exact⟨rfl,_,HFin.out,Hmod.out⟩
section
variable {jv k1 k2 k3 qv s : Value}
theorem run_store_f64 (P:Program)(w:World)(a:Addr)(x:Nat)(m:Mode):(store a (.float .f64 x) m).run P w=stored P w a (.float .f64 x) m:=run_store P w a _ m rfl
attribute [local go_sem] run_store_f64
def inB (n m:Int):Bool:=decide (1≤n) && decide (n≤m)
def cfgV (k m i:Int):Value:= .agg #[.int .i64 k,.int .i64 m,.int .i64 i]
theorem plan_within (n m:Int)(w:World):Calls Tryz.prog 81 #[.int .i64 n,.int .i64 m] w fun e w'=>e= .returned (.bool (inB n m))∧w=w':=by
 unfold inB;by_cases h1:1≤n
 ·by_cases h2:n≤m
  ·rw[show(decide (1≤n) && decide (n≤m))=true from by simp[h1,h2]];go_in;go_wp2;go_ret;exact⟨rfl,rfl⟩
  ·rw[show(decide (1≤n) && decide (n≤m))=false from by simp[h2]];go_in;go_wp2;go_ret;exact⟨rfl,rfl⟩
 ·rw[show(decide (1≤n) && decide (n≤m))=false from by simp[h1]];go_in;go_wp2;go_ret;exact⟨rfl,rfl⟩
def cfgOk (k m i:Int):Bool:=inB k 64 && (inB m 192 && inB i 8)
theorem plan_Check {E:Nat→Addr}(k m i:Int)(w:World)(hE:ErrsC E w):Calls Tryz.prog 53 #[cfgV k m i] w fun e w'=>e= .returned (if cfgOk k m i=true then .nilIface else errV E 1)∧Below w.heap.size w w':=by
 have hB:=(Below.refl w.heap.size w).alloc (Nat.le_refl _) (.cells #[.int .i64 k,.int .i64 m,.int .i64 i] 39);have hC:=Blk.new w 39 #[.int .i64 k,.int .i64 m,.int .i64 i];obtain⟨W,hW⟩:∃W,W=w.alloc (.cells #[.int .i64 k,.int .i64 m,.int .i64 i] 39):=⟨_,rfl⟩;rw[←hW]at hB hC;obtain⟨c0,c1,c2⟩:=hC.c3;have HW:=qd hW;have HB:=qd hB;have her:=hE.at_ 1 (by omega) (by omega);have hbk:=hE.below hB (Nat.le_refl _);replace her:=hbk.at_ 1 (by omega) (by omega);unfold ErrAt gE at her;simp only at her;have HP:=qd (plan_within);unfold cfgV;clear hW hB hC hE hbk;unfold cfgOk
 cases h1:inB k 64 with
 |false=>
  simp only[Bool.false_and,Bool.false_eq_true,if_false];go_in;go_upto_region 1 with fail;rw[←HW.out];have HQ:=qd (HP.out k 64 W);rw[h1]at HQ;go_wp2_with fail;refine(HQ.out).mono ?_;rintro y w1 ⟨rfl,rfl⟩;clear HQ;go_wp2;go_ret;exact⟨by rw[errV_pos E (by omega:1≤1)];rfl,HB.out⟩
 |true=>
  cases h2:inB m 192 with
  |false=>
   simp only[Bool.true_and,Bool.false_and,Bool.false_eq_true,if_false];go_in;go_upto_region 1 with fail;rw[←HW.out];have HQ:=qd (HP.out k 64 W);rw[h1]at HQ;go_wp2_with fail;refine(HQ.out).mono ?_;rintro y w1 ⟨rfl,rfl⟩;clear HQ;have HQ:=qd (HP.out m 192 W);rw[h2]at HQ;go_wp2_with fail;refine(HQ.out).mono ?_;rintro y w1 ⟨rfl,rfl⟩;clear HQ;go_wp2;go_ret;exact⟨by rw[errV_pos E (by omega:1≤1)];rfl,HB.out⟩
  |true=>
   cases h3:inB i 8 with
   |false=>
    simp only[Bool.true_and,Bool.false_eq_true,if_false];go_in;go_upto_region 1 with fail;rw[←HW.out];have HQ:=qd (HP.out k 64 W);rw[h1]at HQ;go_wp2_with fail;refine(HQ.out).mono ?_;rintro y w1 ⟨rfl,rfl⟩;clear HQ;have HQ:=qd (HP.out m 192 W);rw[h2]at HQ;go_wp2_with fail;refine(HQ.out).mono ?_;rintro y w1 ⟨rfl,rfl⟩;clear HQ;have HQ:=qd (HP.out i 8 W);rw[h3]at HQ;go_wp2_with fail;refine(HQ.out).mono ?_;rintro y w1 ⟨rfl,rfl⟩;clear HQ;go_wp2;go_ret;exact⟨by rw[errV_pos E (by omega:1≤1)];rfl,HB.out⟩
   |true=>
    simp only[Bool.true_and,if_true];go_in;go_upto_region 1 with fail;rw[←HW.out];have HQ:=qd (HP.out k 64 W);rw[h1]at HQ;go_wp2_with fail;refine(HQ.out).mono ?_;rintro y w1 ⟨rfl,rfl⟩;clear HQ;have HQ:=qd (HP.out m 192 W);rw[h2]at HQ;go_wp2_with fail;refine(HQ.out).mono ?_;rintro y w1 ⟨rfl,rfl⟩;clear HQ;have HQ:=qd (HP.out i 8 W);rw[h3]at HQ;go_wp2_with fail;refine(HQ.out).mono ?_;rintro y w1 ⟨rfl,rfl⟩;clear HQ;go_wp2;go_ret;exact⟨rfl,HB.out⟩
theorem plan_times (k m i n:Int)(hk:1≤k∧k≤64)(hn:0≤n∧n≤24)(w:World):Calls Tryz.prog 103 #[cfgV k m i,.int .i64 n,.int .i64 0] w fun e w'=>e= .returned (.int .i64 (n*k))∧Below w.heap.size w w':=by
 have hB:=(Below.refl w.heap.size w).alloc (Nat.le_refl _) (.cells #[.int .i64 k,.int .i64 m,.int .i64 i] 39);have hC:=Blk.new w 39 #[.int .i64 k,.int .i64 m,.int .i64 i];obtain⟨W,hW⟩:∃W,W=w.alloc (.cells #[.int .i64 k,.int .i64 m,.int .i64 i] 39):=⟨_,rfl⟩;rw[←hW]at hB hC;obtain⟨c0,c1,c2⟩:=hC.c3;have HW:=qd hW;have HB:=qd hB;have HP:=qd (plan_within k 64 W);rw[show inB k 64=true from by simp[inB,hk]]at HP;have hnk:0≤n*k∧n*k≤24*64:=⟨Int.mul_nonneg hn.1 (by omega),Int.mul_le_mul hn.2 hk.2 (by omega) (by omega)⟩
 have hw1:IntKind.i64.wrap (n*k)=n*k:=by rw[IntKind.wrap_i64];omega
 unfold cfgV;clear hW hB hC hk hn hnk;go_in;go_upto_region 1 with fail;rw[←HW.out];go_wp2_with fail;refine(HP.out).mono ?_;rintro y w1 ⟨rfl,rfl⟩;go_wp2;go_ret;exact⟨rfl,HB.out⟩
theorem plan_Own (k m i:Int)(hk:1≤k∧k≤64)(w:World):Calls Tryz.prog 141 #[cfgV k m i] w fun e w'=>e= .returned (.int .i64 (8*k))∧Below w.heap.size w w':=by
 have hB:=(Below.refl w.heap.size w).alloc (Nat.le_refl _) (.cells #[.int .i64 k,.int .i64 m,.int .i64 i] 39);have hC:=Blk.new w 39 #[.int .i64 k,.int .i64 m,.int .i64 i];obtain⟨W,hW⟩:∃W,W=w.alloc (.cells #[.int .i64 k,.int .i64 m,.int .i64 i] 39):=⟨_,rfl⟩;rw[←hW]at hB hC;obtain⟨c0,c1,c2⟩:=hC.c3;have HW:=qd hW;have HB:=qd hB;have HP:=qd (plan_times k m i 8 hk (by omega) W);unfold cfgV at HP⊢;clear hW hB hC hk;go_in;go_upto_region 1 with fail;rw[←HW.out];go_wp2_with fail;refine(HP.out).mono ?_;rintro y w1 ⟨rfl,hb⟩;have HB2:=qd (HB.out.trans (hb.mono HB.out.size));clear hb;go_wp2;go_ret;exact⟨ret_int (by omega),HB2.out⟩
theorem plan_Other (k m i:Int)(hk:1≤k∧k≤64)(w:World):Calls Tryz.prog 143 #[cfgV k m i] w fun e w'=>e= .returned (.int .i64 (1*k))∧Below w.heap.size w w':=by
 have hB:=(Below.refl w.heap.size w).alloc (Nat.le_refl _) (.cells #[.int .i64 k,.int .i64 m,.int .i64 i] 39);have hC:=Blk.new w 39 #[.int .i64 k,.int .i64 m,.int .i64 i];obtain⟨W,hW⟩:∃W,W=w.alloc (.cells #[.int .i64 k,.int .i64 m,.int .i64 i] 39):=⟨_,rfl⟩;rw[←hW]at hB hC;obtain⟨c0,c1,c2⟩:=hC.c3;have HW:=qd hW;have HB:=qd hB;have HP:=qd (plan_times k m i 1 hk (by omega) W);unfold cfgV at HP⊢;clear hW hB hC hk;go_in;go_upto_region 1 with fail;rw[←HW.out];go_wp2_with fail;refine(HP.out).mono ?_;rintro y w1 ⟨rfl,hb⟩;have HB2:=qd (HB.out.trans (hb.mono HB.out.size));clear hb;go_wp2;go_ret;exact⟨ret_int (by omega),HB2.out⟩
theorem credit_Drop (sb:Nat)(b:Int)(w:World)(h:Blk w sb 177 #[k1,k2,k3,qv,jv,.int .i64 b,.float .f64 0,s]):
  Calls Tryz.prog 185 #[.pointer (some ⟨sb,5,none⟩)] w fun e w'=>e= .returned (.int .i64 b)∧Blk w' sb 177 #[k1,k2,k3,qv,jv,.int .i64 0,.float .f64 0,s]∧Mod [sb] w w':=by
 have c5:=h.cell 5;have c6:=h.cell 6;have f5:=h.frozen 5;have f6:=h.frozen 6;simp only[gl]at c5 c6;have hs:=((h.set_ 5 (.int .i64 0)).set_ 6 (.float .f64 0));simp only[pt]at hs;have HS:=qd (And.intro hs (((Mod.refl [sb] w).sl 5 (.int .i64 0)).sl 6 (.float .f64 0)));clear h hs;go_in;go_wp2;go_ret;exact⟨rfl,HS.out⟩
theorem credit_Deposit (sb:Nat)(n:Int)(hn:0≤n∧n≤1000)(w:World)(h:Blk w sb 177 #[k1,k2,k3,qv,jv,.int .i64 0,.float .f64 0,s]):
  Calls Tryz.prog 155 #[.pointer (some ⟨sb,5,none⟩),.int .i64 n] w fun e w'=>e= .returned (.int .i64 n)∧Blk w' sb 177 #[k1,k2,k3,qv,jv,.int .i64 n,.float .f64 0,s]∧Mod [sb] w w':=by
 obtain⟨n0,n1⟩:=hn;have c5:=h.cell 5;have c6:=h.cell 6;have f5:=h.frozen 5;have f6:=h.frozen 6;simp only[gl]at c5 c6;have hs:=(h.set_ 5 (.int .i64 n));simp only[pt]at hs;have HS:=qd (And.intro hs ((Mod.refl [sb] w).sl 5 (.int .i64 n)));clear h hs
 have hx0:¬n<0:=by omega
 have hx1:¬(1099511627776:Int)<n:=by omega
 go_in;go_wp2;go_ret;exact⟨rfl,HS.out⟩
theorem credit_Spend (sb b:Nat)(hb:1≤b∧b≤1000)(w:World)(h:Blk w sb 177 #[k1,k2,k3,qv,jv,.int .i64 (b:Int),.float .f64 0,s]):
  Calls Tryz.prog 154 #[.pointer (some ⟨sb,5,none⟩),.int .i64 1] w fun e w'=>e= .returned (.bool true)∧Blk w' sb 177 #[k1,k2,k3,qv,jv,.int .i64 ((b:Int)-1),.float .f64 0,s]∧Mod [sb] w w':=by
 obtain⟨b0,b1⟩:=hb
 have hx1:¬(1:Int)>(b:Int):=by omega
 have c5:=h.cell 5;have c6:=h.cell 6;have f5:=h.frozen 5;have f6:=h.frozen 6;simp only[gl]at c5 c6;have hs:=(h.set_ 5 (.int .i64 ((b:Int)-1)));simp only[pt]at hs;have HS:=qd (And.intro hs ((Mod.refl [sb] w).sl 5 (.int .i64 ((b:Int)-1))));clear h hs;go_in;go_wp2;go_ret;exact⟨rfl,HS.out⟩
theorem credit_Spend_no (sb:Nat)(w:World)(h:Blk w sb 177 #[k1,k2,k3,qv,jv,.int .i64 0,.float .f64 0,s]):
  Calls Tryz.prog 154 #[.pointer (some ⟨sb,5,none⟩),.int .i64 1] w fun e w'=>e= .returned (.bool false)∧w=w':=by
 have c5:=h.cell 5;have c6:=h.cell 6;have f5:=h.frozen 5;have f6:=h.frozen 6;simp only[gl]at c5 c6;clear h;go_in;go_wp2;go_ret;exact⟨rfl,rfl⟩
theorem credit_Balance (sb:Nat)(b:Int)(w:World)(h:Blk w sb 177 #[k1,k2,k3,qv,jv,.int .i64 b,.float .f64 0,s]):
  Calls Tryz.prog 187 #[.pointer (some ⟨sb,5,none⟩)] w fun e w'=>e= .returned (.int .i64 b)∧w=w':=by
 have c5:=h.cell 5;have c6:=h.cell 6;have f5:=h.frozen 5;have f6:=h.frozen 6;simp only[gl]at c5 c6;clear h;go_in;go_wp2;go_ret;exact⟨rfl,rfl⟩
end
section
variable {w : World} {first qb rb : Nat} {ids ring : List Nat}
theorem QuIn.put (h:QuIn w qb rb ring first ids){t:Nat}(ht:t<ids.length)(x:Nat):QuIn (w.setCell ⟨rb,(first+t) % 40,none⟩ (.int .i64 (x:Int))) qb rb (ring.set ((first+t) % 40) x) first (ids.set t x):=by
 have hm:=h.many;have hl:=h.len;have hf:=h.lt40;refine⟨?_, ?_,by rw[List.length_set];exact hl,hf,by rw[List.length_set];exact hm,fun i hi=> ?_,h.ne⟩
 ·rw[List.length_set];exact h.blk.far (p:=⟨rb,(first+t) % 40,none⟩) h.ne _
 ·have:=h.row.set_ ((first+t) % 40) (.int .i64 (x:Int))
  rwa [intCells_set]at this
 ·rw[List.length_set]at hi;rw[List.getD_eq_getElem?_getD,List.getElem?_set,List.getD_eq_getElem?_getD (l:=ids.set t x),List.getElem?_set];by_cases hti:t=i
  ·subst hti;rw[if_pos rfl,if_pos rfl,if_pos (by omega),if_pos ht]
  ·rw[if_neg hti,if_neg (by omega),←List.getD_eq_getElem?_getD,←List.getD_eq_getElem?_getD];exact h.at_ i hi
def shiftN (ids:List Nat)(i:Nat):Nat→List Nat
 |0=>ids
 |k+1=>(shiftN ids i k).set (i+k) (ids.getD (i+k+1) 0)
theorem shiftN_length (ids:List Nat)(i:Nat):∀k,(shiftN ids i k).length=ids.length
 |0=>rfl
 |k+1=>by unfold shiftN;rw[List.length_set,shiftN_length ids i k]
theorem shiftN_at (ids:List Nat)(i:Nat):∀(k:Nat),i+k<ids.length→∀(t:Nat),t<ids.length→(shiftN ids i k).getD t 0=if i≤t∧t<i+k then ids.getD (t+1) 0 else ids.getD t 0
 |0,_,t,_=>by rw[if_neg (by omega)];rfl
 |k+1,hk,t,ht=>by
  unfold shiftN;rw[List.getD_eq_getElem?_getD,List.getElem?_set,shiftN_length];by_cases h:i+k=t
  ·subst h;rw[if_pos rfl,if_pos (by omega),if_pos (by omega)];rfl
  ·rw[if_neg h,←List.getD_eq_getElem?_getD,shiftN_at ids i k (by omega) t ht];by_cases h2:i≤t∧t<i+k
   ·rw[if_pos h2,if_pos (by omega)]
   ·rw[if_neg h2,if_neg (by omega)]
theorem shiftN_all {i:Nat}(hi:i<ids.length):(shiftN ids i (ids.length-(i+1))).take (ids.length-1)=ids.eraseIdx i:=by
 apply List.ext_getElem?;intro t;rw[List.getElem?_take,List.getElem?_eraseIdx];by_cases ht:t<ids.length-1
 ·rw[if_pos ht];have h1:=shiftN_at ids i (ids.length-(i+1)) (by omega) t (by omega)
  have h2:t<(shiftN ids i (ids.length-(i+1))).length:=by rw[shiftN_length];omega
  rw[List.getD_eq_getElem?_getD,List.getElem?_eq_getElem h2]at h1;rw[List.getElem?_eq_getElem h2];by_cases h3:t<i
  ·rw[if_pos h3];rw[if_neg (by omega),List.getD_eq_getElem?_getD,List.getElem?_eq_getElem (show t<ids.length by omega)]at h1;rw[List.getElem?_eq_getElem (show t<ids.length by omega)];simpa using h1
  ·rw[if_neg h3];rw[if_pos (by omega),List.getD_eq_getElem?_getD,List.getElem?_eq_getElem (show t+1<ids.length by omega)]at h1;rw[List.getElem?_eq_getElem (show t+1<ids.length by omega)];simpa using h1
 ·rw[if_neg ht];by_cases h3:t<i
  ·omega
  ·rw[if_neg h3,List.getElem?_eq_none (by omega)]
theorem QuIn.shrink (h:QuIn w qb rb ring first ids):QuIn (w.setCell ⟨qb,2,none⟩ (.int .i64 ((ids.length-1:Nat):Int))) qb rb ring first (ids.take (ids.length-1)):=by
 have hm:=h.many
 have hlt:(ids.take (ids.length-1)).length=ids.length-1:=by rw[List.length_take];omega
 refine⟨?_,h.row.far (p:=⟨qb,2,none⟩) (Ne.symm h.ne) _,h.len,h.lt40,by omega,fun i hi=> ?_,h.ne⟩
 ·rw[hlt];have:=h.blk.set_ 2 (.int .i64 ((ids.length-1:Nat):Int));simpa using this
 ·rw[hlt]at hi;rw[h.at_ i (by omega),List.getD_eq_getElem?_getD,List.getD_eq_getElem?_getD,List.getElem?_take,if_pos hi]
theorem own_some_form {base n c:Nat}{e:TypeId}{A:Option Addr}{xs:List Value}(h:w.ownsRow base e 1 (.slice A n c) n xs)(hn:0<n):∃(g:Nat) (_:Nat),A=some ⟨g,0,none⟩∧base≤g∧g<w.heap.size∧n≤c:=by
 rcases h.2 with⟨_,hz⟩|⟨g,cap,cur,hv,hb,hg,hnc,_⟩
 ·omega
 ·cases hv;exact⟨g,0,rfl,hb,(Array.getElem?_eq_some_iff.1 hg).1,hnc⟩
theorem queue_Remove (qb rb:Nat)(ring:List Nat)(first:Nat)(ids:List Nat)(id i:Nat)(hin:idxN ids id=some i)(w:World)(h:QuIn w qb rb ring first ids):
  Calls Tryz.prog 189 #[quP qb,.int .i64 (id:Int)] w fun e w'=>e= .returned (.bool true)∧(∃ring',QuIn w' qb rb ring' first (ids.eraseIdx i))∧Mod [qb,rb] w w':=by
 have hm40:=h.many;have hf:=h.lt40
 have hil:i<ids.length:=by
  unfold idxN at hin;rw[List.findIdx?_eq_some_iff_getElem]at hin;exact hin.1
 have HLs:=qd (queue_list qb rb ring first ids w h);obtain⟨n,hn⟩:∃n,n=ids.length:=⟨_,rfl⟩;have HN:=qd hn;rw[←hn]at HLs hm40 hil;unfold quP at HLs⊢
 have hi0:(0:Int)≤(i:Int):=by omega
 have hi1:¬(i:Int)<0:=by omega
 have HQ:=qd (h);have Hmod:=qd (Mod.refl [qb,rb] w);clear h hn;go_in;have q1:=qJ HQ.out.lt HQ.out.ltR;go_wp2_with fail;refine(HLs.out).mono ?_;rintro y w1 ⟨A,c,rfl,hO,hb⟩;have HI:=qd (index_int A n c id ids (by omega) _ w1 hO);rw[hin]at HI;simp only[optI]at HI;clear hin HLs;replace HQ:=qB hb HQ;have z3:=(hb).size;replace Hmod:=qT Hmod hb;clear hb;have HO:=qd (hO);clear hO;go_wp2_with fail;refine(HI.out).mono ?_;rintro y w2 ⟨rfl,rfl⟩;clear HI;obtain⟨g,c2,hA⟩:=own_some_form HO.out (by omega);obtain⟨rfl,hgb,hgl,hnc⟩:=hA
 have hw1:IntKind.i64.wrap ((i:Int)+1)=(i:Int)+1:=by rw[IntKind.wrap_i64];omega
 have hs0:(0:Int)≤(i:Int)+1:=by omega
 have hs1:(i:Int)+1≤(n:Int):=by omega
 have hs2:((i:Int)+1).toNat=i+1:=by omega
 by_cases hce:c=i+1
 ·obtain⟨mm,hmm⟩:∃mm,mm=n-(i+1):=⟨_,rfl⟩;have HCe:=qd hce;subst hce;go_wp2;go_loopw [7,8,21] (fun _ _ vi wr=>∃k:Nat,k≤n-(i+1)∧vi= .int .i64 k∧(∃rg,QuIn wr qb rb rg first (shiftN ids i k))∧wr.ownsRow w.heap.size 3 1 (.slice (some ⟨g,0,none⟩) n (i+1)) n (intVals ids)∧Mod [qb,rb] w wr) (fun _ _ vi _=>(n-(i+1))-(intOf vi).toNat)
  case atStart=>exact⟨0,by omega,rfl,⟨ring,HQ.out⟩,HO.out,Hmod.out⟩
  case round=>
   clear HQ HO Hmod;obtain⟨k,hk,rfl,⟨rg,hQ⟩,hO,hm⟩:=hrel;have hnn:=HN.out;by_cases hlt:k<n-(i+1)
   ·exfalso;omega
   ·obtain rfl:k=n-(i+1):=by omega
    have hlt':¬((n-(i+1):Nat):Int)<((n-(i+1):Nat):Int):=by omega
    have hsl:(shiftN ids i (n-(i+1))).length=ids.length:=shiftN_length ids i _;have hs:=hQ.shrink;rw[hsl,←hnn,show(shiftN ids i (n-(i+1))).take (n-1)=ids.eraseIdx i from by rw[hnn];exact shiftN_all (by omega)]at hs;have c2:=hQ.blk.cell 2;have f2:=hQ.blk.frozen 2;simp only[gl]at c2;rw[hsl,←hnn]at c2
    have hw4:IntKind.i64.wrap ((n:Int)-1)=((n-1:Nat):Int):=by rw[IntKind.wrap_i64];omega
    have hw5:wrap64 ((n:Int)-1)=((n-1:Nat):Int):=by unfold wrap64;omega
    have HFin:=qd (And.intro (show∃ring',QuIn _ qb rb ring' first (ids.eraseIdx i)from⟨rg,hs⟩) (hm.sl 2 (.int .i64 ((n-1:Nat):Int))));clear hQ hO hm hs hsl hnn;go_wp2;go_ret;exact⟨rfl,HFin.out⟩
 ·obtain⟨mm,hmm⟩:∃mm,mm=n-(i+1):=⟨_,rfl⟩;go_wp2;go_loopw [7,8,21] (fun _ _ vi wr=>∃k:Nat,k≤n-(i+1)∧vi= .int .i64 k∧(∃rg,QuIn wr qb rb rg first (shiftN ids i k))∧wr.ownsRow w.heap.size 3 1 (.slice (some ⟨g,0,none⟩) n c) n (intVals ids)∧Mod [qb,rb] w wr) (fun _ _ vi _=>(n-(i+1))-(intOf vi).toNat)
  case atStart=>exact⟨0,by omega,rfl,⟨ring,HQ.out⟩,HO.out,Hmod.out⟩
  case round=>
   clear HQ HO Hmod;obtain⟨k,hk,rfl,⟨rg,hQ⟩,hO,hm⟩:=hrel;have hnn:=HN.out;by_cases hlt:k<n-(i+1)
   ·have hlt':(k:Int)<((n-(i+1):Nat):Int):=by omega
    have hk0:(0:Int)≤(k:Int):=by omega
    obtain⟨v,hv⟩:∃v,ids[i+1+k]?=some v:=⟨_,List.getElem?_eq_getElem (by omega)⟩;obtain⟨g',hg',_,_,hc,_⟩:=intVals_cell hO hv;cases hg'
    have hvd:ids.getD (i+k+1) 0=v:=by rw[List.getD_eq_getElem?_getD,show i+k+1=i+1+k by omega,hv];rfl
    have hsl:(shiftN ids i k).length=ids.length:=shiftN_length ids i k;have HAt:=qd (fun V hV=>queue_at qb rb rg first (shiftN ids i k) (i+k) (by omega) V hV)
    try simp only[nI]at HAt
    rw[show((i+k:Nat):Int)=(i:Int)+(k:Int) by omega]at HAt;have HPu:=qd (fun V (hV:QuIn V qb rb rg first (shiftN ids i k))=>hV.put (t:=i+k) (by omega) v);obtain⟨q,hq⟩:∃q,q=(first+(i+k)) % 40:=⟨_,rfl⟩;rw[←hq]at HAt HPu
    have hq40:q<40:=by omega
    have hq0:(0:Int)≤(q:Int):=by omega
    have hq1:(q:Int)<40:=by omega
    have hw3:IntKind.i64.wrap ((i:Int)+(k:Int))=(i:Int)+(k:Int):=by rw[IntKind.wrap_i64];omega
    have HVd:=qd hvd;unfold quP at HAt;clear hv hvd hsl hq hnn;have HQ:=qd (hQ);have HO:=qd (hO);have Hmod:=qd (hm);clear hQ hO hm;have z1:=qJ Hmod.out.size (qJ HQ.out.lt HQ.out.ltR);go_upto_region 8 with fail;have ce:=HQ.out.entry hq40;have cf:=HQ.out.row.frozen q;have c0:=HQ.out.blk.cell 0;simp only[List.getElem?_toArray,List.getElem?_cons_zero]at c0;obtain⟨u,hu⟩:∃u,u=rg.getD q 0:=⟨_,rfl⟩;rw[←hu]at ce;clear hu;refine rT (fun(w':World)=>w'.cell? ⟨qb,0,none⟩=some (.slice (some ⟨rb,0,none⟩) 40 40)) [11] ?_;have hHeld:=c0;refine vW 0 rfl ?_;refine vW 1 rfl ?_;refine vW 2 rfl ?_;refine vT 3 rfl ?_;refine vW 4 rfl ?_;refine vW 5 rfl ?_;refine vW 6 rfl ?_;refine vW 7 rfl ?_;refine vW 9 rfl ?_;refine nT 8 rfl fun K hK=> ?_;go_simp;refine(HAt.out _ (HQ.out.mod (Mod.drewN [] wr 1) (by simp) (by simp))).mono ?_;rintro y w3 ⟨rfl,hw3'⟩;have hm:Mod [] wr w3:=hw3'▸Mod.drewN [] wr 2;clear hw3' hc ce cf c0;replace HQ:=qM hm HQ;replace HO:=qM hm HO;have z4:=(hm).size;replace Hmod:=qU Hmod hm;clear hm;have ce:=HQ.out.entry hq40;have cf:=HQ.out.row.frozen q;have c0:=HQ.out.blk.cell 0;simp only[List.getElem?_toArray,List.getElem?_cons_zero]at c0;obtain⟨u,hu⟩:∃u,u=rg.getD q 0:=⟨_,rfl⟩;rw[←hu]at ce;clear hu;go_wp2_with fail;have hHeld:=c0;refine kO hK ?_;clear hK K;refine vW 10 rfl ?_;refine nT 11 rfl fun K hK=> ?_;go_simp;refine kO hK ?_;clear hK K;refine doneT (by kernel_rfl) ?_ _;have HNx:=qd (show shiftN ids i (k+1)=(shiftN ids i k).set (i+k) v from by rw[←HVd.out];rfl)
    refine nameW (F:=fun V=>QuIn V qb rb (rg.set q v) first (shiftN ids i (k+1))∧Mod [rb] w3 V) ⟨by rw[HNx.out];exact HPu.out _ HQ.out,(Mod.refl [rb] w3).sl q (.int .i64 (v:Int))⟩ ?_;rintro w4 ⟨hQ4,hm⟩;clear HQ ce cf c0;replace HO:=qM hm HO;have z5:=(hm).size;replace Hmod:=qU Hmod hm;have HQ4:=qd hQ4;clear hQ4 hm;go_wp2;go_roundw
    case rel=>exact⟨k+1,by omega,by go_num,⟨_,HQ4.out⟩,HO.out,Hmod.out⟩
    case measure=>simp[intOf];omega
   ·obtain rfl:k=n-(i+1):=by omega
    have hlt':¬((n-(i+1):Nat):Int)<((n-(i+1):Nat):Int):=by omega
    have hsl:(shiftN ids i (n-(i+1))).length=ids.length:=shiftN_length ids i _;have hs:=hQ.shrink;rw[hsl,←hnn,show(shiftN ids i (n-(i+1))).take (n-1)=ids.eraseIdx i from by rw[hnn];exact shiftN_all (by omega)]at hs;have c2:=hQ.blk.cell 2;have f2:=hQ.blk.frozen 2;simp only[gl]at c2;rw[hsl,←hnn]at c2
    have hw4:IntKind.i64.wrap ((n:Int)-1)=((n-1:Nat):Int):=by rw[IntKind.wrap_i64];omega
    have hw5:wrap64 ((n:Int)-1)=((n-1:Nat):Int):=by unfold wrap64;omega
    have HFin:=qd (And.intro (show∃ring',QuIn _ qb rb ring' first (ids.eraseIdx i)from⟨rg,hs⟩) (hm.sl 2 (.int .i64 ((n-1:Nat):Int))));clear hQ hO hm hs hsl hnn;go_wp2;go_ret;exact⟨rfl,HFin.out⟩
end
end Go.Proofs.YtchlkhkeonnmdacGreatDoor
