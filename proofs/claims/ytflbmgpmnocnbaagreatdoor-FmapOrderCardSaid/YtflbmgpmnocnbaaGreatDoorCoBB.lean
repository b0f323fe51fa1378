/- Package choose by its contracts. -/
import Derived.Test.YtflbmgpmnocnbaaGreatDoorCoAQ
import Derived.Test.YtflbmgpmnocnbaaGreatDoorLaneP
import Derived.Test.YtflbmgpmnocnbaaGreatDoorSqT
namespace Go.Proofs.YtflbmgpmnocnbaaGreatDoor
set_option maxRecDepth 100000
set_option maxHeartbeats 4000000
open Go.RowKit AmC
def needsB (l t:Int)(g:Nat):Bool:=decide (4*(g:Int)≤l)||decide (4*(g:Int)-l≤t)
def whichK (l t:Int)(g lo gl:Nat):Nat:=if needsB l t g=false then 0 else if l≤2*(g:Int)then 1 else if 8≤g∧lo<gl then 3 else if g<64 then 2 else 1
def doubleB (l t:Int)(g lo gl:Nat):Bool:=needsB l t g && (decide (2*(g:Int)<l) && (decide (8≤g) && (decide (lo=gl) && decide (gl<5))))
theorem choose_needs (l t:Int)(g:Nat)(hg:g≤64)(hl:0≤l∧l≤1000)(ht:0≤t∧t≤1000)(w:World):Calls Tryz.prog 186 #[.int .i64 l,.int .i64 t,.int .i64 (g:Int)] w fun e w'=>e= .returned (.bool (needsB l t g))∧w=w':=by
 obtain⟨l0,l1⟩:=hl;obtain⟨t0,t1⟩:=ht;by_cases h1:4*(g:Int)≤l
 ·have hr:needsB l t g=true:=by simp[needsB,h1]
  rw[hr];clear hr;go_in;go_wp2;go_ret;exact⟨rfl,rfl⟩
 ·by_cases h2:4*(g:Int)-l≤t
  ·have hr:needsB l t g=true:=by simp[needsB,h2]
   rw[hr];clear hr;go_in;go_wp2;go_ret;exact⟨rfl,rfl⟩
  ·have hr:needsB l t g=false:=by simp[needsB,h1,h2]
   rw[hr];clear hr;go_in;go_wp2;go_ret;exact⟨rfl,rfl⟩
theorem min4 (a b c d:Int)(P:Program)(w:World)(h1:0≤a)(h2:0≤b)(h3:0≤c)(h4:0≤d)(ts:Array TypeId)(t:TypeId):∃m,0≤m∧(Builtin.min_ ts t #[.int .i64 a,.int .i64 b,.int .i64 c,.int .i64 d]).run P w= .ok (.int .i64 m) w:=by
 have step:∀x y:Int,0≤x→0≤y→∃m,0≤m∧(Builtin.min2 (.int .i64 x) (.int .i64 y)).run P w= .ok (.int .i64 m) w:=fun x y hx hy=>by
  unfold Builtin.min2;by_cases h:y<x
  ·exact⟨y,hy,by simp[h,go_sem]⟩
  ·exact⟨x,hx,by simp[h,go_sem]⟩
 obtain⟨m1,n1,e1⟩:=step a b h1 h2;obtain⟨m2,n2,e2⟩:=step m1 c n1 h3;obtain⟨m3,n3,e3⟩:=step m2 d n2 h4;refine⟨m3,n3, ?_⟩;show((Builtin.min2 (.int .i64 a) (.int .i64 b))>>=fun x=>(Builtin.min2 x (.int .i64 c))>>=fun x=>(Builtin.min2 x (.int .i64 d))>>=fun x=>pure x).run P w=_;simp only[Sem.run_bind,e1,e2,e3,Result.andThen_ok,Sem.run_pure]
theorem choose_fine (l t:Int)(g lo gl:Nat)(hg:Pw g)(hl:0≤l)(ht:0≤t)(w:World):Calls Tryz.prog 185 #[.int .i64 l,.int .i64 t,.int .i64 (g:Int),.int .i64 (lo:Int),.int .i64 (gl:Int)] w fun e w'=>e= .returned (.bool true)∧w=w':=by
 have HR:=qd (probe_Right_ok g hg w)
 have h3:(0:Int)≤(lo:Int):=by omega
 have h4:(0:Int)≤(gl:Int):=by omega
 obtain⟨m,hm0,hmn⟩:=min4 l t (lo:Int) (gl:Int) Tryz.prog w hl ht h3 h4 #[3,3,3,3] 3;clear hg;go_in;go_wp2_with fail;refine(HR.out).mono ?_;rintro y w1 ⟨rfl,rfl⟩;go_wp2;go_ret;exact⟨rfl,rfl⟩
theorem choose_Which (l t:Int)(g lo gl:Nat)(hg:Pw g)(hl:0≤l∧l≤1000)(ht:0≤t∧t≤1000)(w:World):Calls Tryz.prog 135 #[.int .i64 l,.int .i64 t,.int .i64 (g:Int),.int .i64 (lo:Int),.int .i64 (gl:Int)] w fun e w'=>e= .returned (.int .i64 ((whichK l t g lo gl:Nat):Int))∧w=w':=by
 have HF:=qd (choose_fine l t g lo gl hg hl.1 ht.1 w);have HN:=qd (choose_needs l t g hg.le hl ht w);have hg64:=hg.le;obtain⟨l0,l1⟩:=hl;unfold whichK
 cases hb:needsB l t g with
 |false=>
  rw[hb]at HN;clear hb hg ht;go_in;go_wp2_with fail;refine(HF.out).mono ?_;rintro y w1 ⟨rfl,rfl⟩;go_wp2_with fail;refine(HN.out).mono ?_;rintro y w1 ⟨rfl,rfl⟩;go_wp2;go_ret;exact⟨rfl,rfl⟩
 |true=>
  rw[hb]at HN;clear hb hg ht;rw[if_neg (by decide)];by_cases h1:l≤2*(g:Int)
  ·rw[if_pos h1];go_in;go_wp2_with fail;refine(HF.out).mono ?_;rintro y w1 ⟨rfl,rfl⟩;go_wp2_with fail;refine(HN.out).mono ?_;rintro y w1 ⟨rfl,rfl⟩;go_wp2;go_ret;exact⟨rfl,rfl⟩
  ·rw[if_neg h1];by_cases h2:8≤g
   ·by_cases h3:lo<gl
    ·rw[if_pos ⟨h2,h3⟩]
     have h2':(8:Int)≤(g:Int):=by omega
     have h3':(lo:Int)<(gl:Int):=by omega
     go_in;go_wp2_with fail;refine(HF.out).mono ?_;rintro y w1 ⟨rfl,rfl⟩;go_wp2_with fail;refine(HN.out).mono ?_;rintro y w1 ⟨rfl,rfl⟩;go_wp2;go_ret;exact⟨rfl,rfl⟩
    ·rw[if_neg (fun h=>h3 h.2)]
     have h2':(8:Int)≤(g:Int):=by omega
     have h3':¬(lo:Int)<(gl:Int):=by omega
     by_cases h4:g<64
     ·rw[if_pos h4]
      have h4':(g:Int)<64:=by omega
      go_in;go_wp2_with fail;refine(HF.out).mono ?_;rintro y w1 ⟨rfl,rfl⟩;go_wp2_with fail;refine(HN.out).mono ?_;rintro y w1 ⟨rfl,rfl⟩;go_wp2;go_ret;exact⟨rfl,rfl⟩
     ·rw[if_neg h4]
      have h4':¬(g:Int)<64:=by omega
      go_in;go_wp2_with fail;refine(HF.out).mono ?_;rintro y w1 ⟨rfl,rfl⟩;go_wp2_with fail;refine(HN.out).mono ?_;rintro y w1 ⟨rfl,rfl⟩;go_wp2;go_ret;exact⟨rfl,rfl⟩
   ·rw[if_neg (fun h=>h2 h.1),if_pos (show g<64 by omega)]
    have h2':¬(8:Int)≤(g:Int):=by omega
    have h4':(g:Int)<64:=by omega
    go_in;go_wp2_with fail;refine(HF.out).mono ?_;rintro y w1 ⟨rfl,rfl⟩;go_wp2_with fail;refine(HN.out).mono ?_;rintro y w1 ⟨rfl,rfl⟩;go_wp2;go_ret;exact⟨rfl,rfl⟩
theorem choose_Double (l t:Int)(g lo gl:Nat)(hg:Pw g)(hl:0≤l∧l≤1000)(ht:0≤t∧t≤1000)(w:World):Calls Tryz.prog 136 #[.int .i64 l,.int .i64 t,.int .i64 (g:Int),.int .i64 (lo:Int),.int .i64 (gl:Int)] w fun e w'=>e= .returned (.bool (doubleB l t g lo gl))∧w=w':=by
 have HF:=qd (choose_fine l t g lo gl hg hl.1 ht.1 w);have HN:=qd (choose_needs l t g hg.le hl ht w);have hg64:=hg.le;obtain⟨l0,l1⟩:=hl
 cases hb:needsB l t g with
 |false=>
  rw[hb]at HN;rw[show doubleB l t g lo gl=false from by simp[doubleB,hb]];clear hb hg ht;go_in;go_wp2_with fail;refine(HF.out).mono ?_;rintro y w1 ⟨rfl,rfl⟩;go_wp2_with fail;refine(HN.out).mono ?_;rintro y w1 ⟨rfl,rfl⟩;go_wp2;go_ret
  first|exact⟨rfl,rfl⟩|exact⟨ret_bool (by simp;omega),rfl⟩
 |true=>
  rw[hb]at HN;clear hg ht;by_cases h1:2*(g:Int)<l
  ·have g1:2*(g:Int)<l:=by omega
   by_cases h2:8≤g
   ·have g2:(8:Int)≤(g:Int):=by omega
    by_cases h3:lo=gl
    ·subst h3;by_cases h4:lo<5
     ·have g4:(lo:Int)<5:=by omega
      rw[show doubleB l t g lo lo=true from by simp[doubleB,hb,h1,h2,h4]];clear hb
      try clear h1
      try clear h2
      try clear h4
      go_in;go_wp2_with fail;refine(HF.out).mono ?_;rintro y w1 ⟨rfl,rfl⟩;go_wp2_with fail;refine(HN.out).mono ?_;rintro y w1 ⟨rfl,rfl⟩;go_wp2;go_ret
      first|exact⟨rfl,rfl⟩|exact⟨ret_bool (by simp;omega),rfl⟩
     ·have g4:¬(lo:Int)<5:=by omega
      rw[show doubleB l t g lo lo=false from by simp[doubleB,hb,h1,h2,h4]];clear hb
      try clear h1
      try clear h2
      try clear h4
      go_in;go_wp2_with fail;refine(HF.out).mono ?_;rintro y w1 ⟨rfl,rfl⟩;go_wp2_with fail;refine(HN.out).mono ?_;rintro y w1 ⟨rfl,rfl⟩;go_wp2;go_ret
      first|exact⟨rfl,rfl⟩|exact⟨ret_bool (by simp;omega),rfl⟩
    ·have g3:¬(lo:Int)=(gl:Int):=by omega
     rw[show doubleB l t g lo gl=false from by simp[doubleB,hb,h1,h2,h3]];clear hb
     try clear h1
     try clear h2
     try clear h4
     go_in;go_wp2_with fail;refine(HF.out).mono ?_;rintro y w1 ⟨rfl,rfl⟩;go_wp2_with fail;refine(HN.out).mono ?_;rintro y w1 ⟨rfl,rfl⟩;go_wp2;go_ret
     first|exact⟨rfl,rfl⟩|exact⟨ret_bool (by simp;omega),rfl⟩
   ·have g2:¬(8:Int)≤(g:Int):=by omega
    rw[show doubleB l t g lo gl=false from by simp[doubleB,hb,h1,h2]];clear hb
    try clear h1
    try clear h2
    try clear h4
    go_in;go_wp2_with fail;refine(HF.out).mono ?_;rintro y w1 ⟨rfl,rfl⟩;go_wp2_with fail;refine(HN.out).mono ?_;rintro y w1 ⟨rfl,rfl⟩;go_wp2;go_ret
    first|exact⟨rfl,rfl⟩|exact⟨ret_bool (by simp;omega),rfl⟩
  ·have g1:¬2*(g:Int)<l:=by omega
   rw[show doubleB l t g lo gl=false from by simp[doubleB,hb,h1]];clear hb
   try clear h1
   try clear h2
   try clear h4
   go_in;go_wp2_with fail;refine(HF.out).mono ?_;rintro y w1 ⟨rfl,rfl⟩;go_wp2_with fail;refine(HN.out).mono ?_;rintro y w1 ⟨rfl,rfl⟩;go_wp2;go_ret
   first|exact⟨rfl,rfl⟩|exact⟨ret_bool (by simp;omega),rfl⟩
theorem choose_Groups (kind g each many:Nat)(hg:Pw g)(he:Pw each)(hk:kind=1∧each=g∧many=1∨kind=2∧each=2*g∧many=1∨kind=3∧each=g∧many=2)(w:World):
  Calls Tryz.prog 137 #[.int .i64 (kind:Int),.int .i64 (g:Int)] w fun e w'=>e= .returned (.tuple #[.int .i64 (each:Int),.int .i64 (many:Int),.nilIface])∧w=w':=by
 have HR:=qd (probe_Right_ok g hg w);have HE:=qd (probe_Right_ok each he w);have h64:=he.le
 have hm:∀q:Nat,((2*q:Nat):Int)=2*(q:Int):=fun q=>by omega
 clear hg he;rcases hk with⟨rfl,rfl,rfl⟩|⟨rfl,rfl,rfl⟩|⟨rfl,rfl,rfl⟩
 all_goals
  try rw[hm]at HE
  try rw[hm]
  clear hm;go_in;go_wp2_with fail;refine(HR.out).mono ?_;rintro y w1 ⟨rfl,rfl⟩;go_wp2_with fail;refine(HE.out).mono ?_;rintro y w1 ⟨rfl,rfl⟩;go_wp2
 ·refine bodyPost_ret (v:= .tuple #[.int .i64 (each:Int),.int .i64 1,.nilIface]) (by simp[results,Tryz.results137,go_sem]) rfl ⟨rfl,rfl⟩
 ·refine bodyPost_ret (v:= .tuple #[.int .i64 (2*(g:Int)),.int .i64 1,.nilIface]) (by simp[results,Tryz.results137,go_sem]) rfl ⟨rfl,rfl⟩
 ·refine bodyPost_ret (v:= .tuple #[.int .i64 (each:Int),.int .i64 2,.nilIface]) (by simp[results,Tryz.results137,go_sem]) rfl ⟨rfl,rfl⟩
def nodeP (b:Nat):Value:= .pointer (some ⟨b,0,none⟩)
def Through (Post:World→World→Prop)(w w':World):Prop:=∃V V' rbk,Below w.heap.size w V∧Post V V'∧w.heap.size≤rbk∧rbk<V.heap.size∧Mod [rbk] V' w'
theorem node_Find_dual (nb tb db:Nat)(pfx dpt job a b:Int)(P:MP)(c:Cnt)(e0:Ent)(b0:Bool)(S:List Nat)(Post:World→World→Prop)(w:World)(hnd:Blk w nb 151 #[.int .i64 pfx,.int .i64 dpt,.pointer (some ⟨tb,0,none⟩),.int .i64 job,.pointer (some ⟨db,0,none⟩)])(hS:∀k∈S,k<w.heap.size)
  (HC:∀V,Below w.heap.size w V→Calls Tryz.prog 114 #[.pointer (some ⟨db,0,none⟩),lensV (some ⟨P.mb,P.mo,none⟩) c,.int .u64 a,.int .u64 b] V fun e V'=>e= .returned (.tuple #[entV e0,.bool b0])∧Mod S V V'∧Post V V'):
  Calls Tryz.prog 72 #[nodeP nb,lensV (some ⟨P.mb,P.mo,none⟩) c,.int .u64 a,.int .u64 b] w fun e w'=>e= .returned (.tuple #[entV e0,.bool b0])∧Through Post w w':=by
 obtain⟨W,hW,hB,hL,hR⟩:=qX2 w 123 #[.pointer (some ⟨P.mb,P.mo,none⟩),.int .i64 c.p,.int .i64 c.v,.int .i64 c.u] 126 #[.int .u64 0,.int .u64 0,.int .u64 0];have hnl:=hnd.lt;have hwl:w.heap.size<W.heap.size:=hL.lt;have HW:=qd hW;have HWB:=qd hB;have HC:=qd (HC W.drew (hB.trans ((Below.refl _ _).drew.mono hB.size)));unfold nodeP;unfold lensV entV at HC⊢;have HN:=qd (hnd.below hB hnd.lt);have HL:=qd (hL);have HR:=qd (hR);have Hmod:=qd (Mod.of_below hB []);clear hW hB hnd hL hR;go_in;go_upto_region 1 with fail;rw[←HW.out];have nc:=HN.out.c5;have lc:=HL.out.c4;go_upto_region 2 with fail;refine rT (fun(w':World)=>w'.cell? ⟨nb,4,none⟩=some (.pointer (some ⟨db,0,none⟩))∧w'.cell? ⟨w.heap.size,0,none⟩=some (.pointer (some ⟨P.mb,P.mo,none⟩))∧w'.cell? ⟨w.heap.size,1,none⟩=some (.int .i64 c.p)∧w'.cell? ⟨w.heap.size,2,none⟩=some (.int .i64 c.v)∧w'.cell? ⟨w.heap.size,3,none⟩=some (.int .i64 c.u)) [7,10] ?_;have hHeld:=(⟨nc.2.2.2.2,lc.1,lc.2.1,lc.2.2.1,lc.2.2.2⟩:_∧_∧_∧_∧_);refine vW 0 rfl ?_;refine vW 1 rfl ?_;refine vW 2 rfl ?_;refine vT 3 rfl ?_;refine vT 4 rfl ?_;refine vW 5 rfl ?_;refine vW 6 rfl ?_;refine nT 7 rfl fun K hK=> ?_;go_simp;refine(HC.out).mono ?_;rintro y w2 ⟨rfl,hm,hpost⟩;have HPo:=qd hpost;have hR2:=HR.out.mod ((Mod.drewN S W 1).then hm) (by intro hk;have:=hS _ hk;omega);have HR2:=qd hR2;have rc:=hR2.c3;have rf:=hR2.f3;clear hpost hm hR2;go_wp2_with fail;refine kO hK ?_;clear hK K;refine vL 8 rfl ?_;refine vL 9 rfl ?_;refine nT 10 rfl fun K hK=> ?_
 go_simp;refine kO hK ?_;clear hK K;refine vL 11 rfl ?_;refine doneT (by kernel_rfl) ?_ _;have hR3:=((HR2.out.set_ 0 (.int .u64 (e0.key:Int))).set_ 1 (.int .u64 (e0.val:Int))).set_ 2 (.int .u64 (e0.hash:Int));simp only[pt]at hR3;refine nameW (F:=fun v=>Blk v (w.heap.size+1) 126 #[.int .u64 (e0.key:Int),.int .u64 (e0.val:Int),.int .u64 (e0.hash:Int)]∧Mod [w.heap.size+1] w2 v) ⟨hR3,(((Mod.refl [w.heap.size+1] w2).set_ (b:=w.heap.size+1) (.inl (by simp)) 0 (.int .u64 (e0.key:Int))).set_ (b:=w.heap.size+1) (.inl (by simp)) 1 (.int .u64 (e0.val:Int))).set_ (b:=w.heap.size+1) (.inl (by simp)) 2 (.int .u64 (e0.hash:Int))⟩ ?_;rintro w3 ⟨hR4,hm3⟩;clear hR3 rc rf;have rx:=hR4.c3;clear hR4;have HFin:=qd (show Through Post w w3 from⟨W.drew,w2,w.heap.size+1,HWB.out.trans ((Below.refl _ _).drew.mono HWB.out.size),HPo.out,by omega,HR.out.lt,hm3⟩);clear hm3;go_wp2;refine bodyPost_ret (v:= .tuple #[.agg #[.int .u64 (e0.key:Int),.int .u64 (e0.val:Int),.int .u64 (e0.hash:Int)],.bool b0]) (by simp[results,Tryz.results72,go_sem,rx.1,rx.2.1,rx.2.2]) rfl ⟨rfl,HFin.out⟩
theorem node_Find_tab (nb tb:Nat)(pfx dpt job a b:Int)(P:MP)(c:Cnt)(e0:Ent)(b0:Bool)(S:List Nat)(Post:World→World→Prop)(w:World)(hnd:Blk w nb 151 #[.int .i64 pfx,.int .i64 dpt,.pointer (some ⟨tb,0,none⟩),.int .i64 job,.pointer none])(hS:∀k∈S,k<w.heap.size)
  (HC:∀V,Below w.heap.size w V→Calls Tryz.prog 115 #[.pointer (some ⟨tb,0,none⟩),lensV (some ⟨P.mb,P.mo,none⟩) c,.int .u64 a,.int .u64 b] V fun e V'=>e= .returned (.tuple #[entV e0,.bool b0])∧Mod S V V'∧Post V V'):
  Calls Tryz.prog 72 #[nodeP nb,lensV (some ⟨P.mb,P.mo,none⟩) c,.int .u64 a,.int .u64 b] w fun e w'=>e= .returned (.tuple #[entV e0,.bool b0])∧Through Post w w':=by
 obtain⟨W,hW,hB,hL,hR⟩:=qX2 w 123 #[.pointer (some ⟨P.mb,P.mo,none⟩),.int .i64 c.p,.int .i64 c.v,.int .i64 c.u] 126 #[.int .u64 0,.int .u64 0,.int .u64 0];have hnl:=hnd.lt;have hwl:w.heap.size<W.heap.size:=hL.lt;have HW:=qd hW;have HWB:=qd hB;have HC:=qd (HC W.drew (hB.trans ((Below.refl _ _).drew.mono hB.size)));unfold nodeP;unfold lensV entV at HC⊢;have HN:=qd (hnd.below hB hnd.lt);have HL:=qd (hL);have HR:=qd (hR);have Hmod:=qd (Mod.of_below hB []);clear hW hB hnd hL hR;go_in;go_upto_region 1 with fail;rw[←HW.out];have nc:=HN.out.c5;have lc:=HL.out.c4;go_upto_region 3 with fail;refine rT (fun(w':World)=>w'.cell? ⟨nb,2,none⟩=some (.pointer (some ⟨tb,0,none⟩))∧w'.cell? ⟨w.heap.size,0,none⟩=some (.pointer (some ⟨P.mb,P.mo,none⟩))∧w'.cell? ⟨w.heap.size,1,none⟩=some (.int .i64 c.p)∧w'.cell? ⟨w.heap.size,2,none⟩=some (.int .i64 c.v)∧w'.cell? ⟨w.heap.size,3,none⟩=some (.int .i64 c.u)) [7,10] ?_;have hHeld:=(⟨nc.2.2.1,lc.1,lc.2.1,lc.2.2.1,lc.2.2.2⟩:_∧_∧_∧_∧_);refine vW 0 rfl ?_;refine vW 1 rfl ?_;refine vW 2 rfl ?_;refine vT 3 rfl ?_;refine vT 4 rfl ?_;refine vW 5 rfl ?_;refine vW 6 rfl ?_;refine nT 7 rfl fun K hK=> ?_;go_simp;refine(HC.out).mono ?_;rintro y w2 ⟨rfl,hm,hpost⟩;have HPo:=qd hpost;have hR2:=HR.out.mod ((Mod.drewN S W 1).then hm) (by intro hk;have:=hS _ hk;omega);have HR2:=qd hR2;have rc:=hR2.c3;have rf:=hR2.f3;clear hpost hm hR2;go_wp2_with fail;refine kO hK ?_;clear hK K;refine vL 8 rfl ?_;refine vL 9 rfl ?_;refine nT 10 rfl fun K hK=> ?_
 go_simp;refine kO hK ?_;clear hK K;refine vL 11 rfl ?_;refine doneT (by kernel_rfl) ?_ _;have hR3:=((HR2.out.set_ 0 (.int .u64 (e0.key:Int))).set_ 1 (.int .u64 (e0.val:Int))).set_ 2 (.int .u64 (e0.hash:Int));simp only[pt]at hR3;refine nameW (F:=fun v=>Blk v (w.heap.size+1) 126 #[.int .u64 (e0.key:Int),.int .u64 (e0.val:Int),.int .u64 (e0.hash:Int)]∧Mod [w.heap.size+1] w2 v) ⟨hR3,(((Mod.refl [w.heap.size+1] w2).set_ (b:=w.heap.size+1) (.inl (by simp)) 0 (.int .u64 (e0.key:Int))).set_ (b:=w.heap.size+1) (.inl (by simp)) 1 (.int .u64 (e0.val:Int))).set_ (b:=w.heap.size+1) (.inl (by simp)) 2 (.int .u64 (e0.hash:Int))⟩ ?_;rintro w3 ⟨hR4,hm3⟩;clear hR3 rc rf;have rx:=hR4.c3;clear hR4;have HFin:=qd (show Through Post w w3 from⟨W.drew,w2,w.heap.size+1,HWB.out.trans ((Below.refl _ _).drew.mono HWB.out.size),HPo.out,by omega,HR.out.lt,hm3⟩);clear hm3;go_wp2;refine bodyPost_ret (v:= .tuple #[.agg #[.int .u64 (e0.key:Int),.int .u64 (e0.val:Int),.int .u64 (e0.hash:Int)],.bool b0]) (by simp[results,Tryz.results72,go_sem,rx.1,rx.2.1,rx.2.2]) rfl ⟨rfl,HFin.out⟩
theorem node_Least_dual (nb tb db:Nat)(pfx dpt job a b:Int)(P:MP)(c:Cnt)(e0:Ent)(b0:Bool)(S:List Nat)(Post:World→World→Prop)(w:World)(hnd:Blk w nb 151 #[.int .i64 pfx,.int .i64 dpt,.pointer (some ⟨tb,0,none⟩),.int .i64 job,.pointer (some ⟨db,0,none⟩)])(hS:∀k∈S,k<w.heap.size)
  (HC:∀V,Below w.heap.size w V→Calls Tryz.prog 199 #[.pointer (some ⟨db,0,none⟩),lensV (some ⟨P.mb,P.mo,none⟩) c,.int .u64 a,.int .u64 b] V fun e V'=>e= .returned (.tuple #[entV e0,.bool b0])∧Mod S V V'∧Post V V'):
  Calls Tryz.prog 157 #[nodeP nb,lensV (some ⟨P.mb,P.mo,none⟩) c,.int .u64 a,.int .u64 b] w fun e w'=>e= .returned (.tuple #[entV e0,.bool b0])∧Through Post w w':=by
 obtain⟨W,hW,hB,hL,hR⟩:=qX2 w 123 #[.pointer (some ⟨P.mb,P.mo,none⟩),.int .i64 c.p,.int .i64 c.v,.int .i64 c.u] 126 #[.int .u64 0,.int .u64 0,.int .u64 0];have hnl:=hnd.lt;have hwl:w.heap.size<W.heap.size:=hL.lt;have HW:=qd hW;have HWB:=qd hB;have HC:=qd (HC W.drew (hB.trans ((Below.refl _ _).drew.mono hB.size)));unfold nodeP;unfold lensV entV at HC⊢;have HN:=qd (hnd.below hB hnd.lt);have HL:=qd (hL);have HR:=qd (hR);have Hmod:=qd (Mod.of_below hB []);clear hW hB hnd hL hR;go_in;go_upto_region 1 with fail;rw[←HW.out];have nc:=HN.out.c5;have lc:=HL.out.c4;go_upto_region 2 with fail;refine rT (fun(w':World)=>w'.cell? ⟨nb,4,none⟩=some (.pointer (some ⟨db,0,none⟩))∧w'.cell? ⟨w.heap.size,0,none⟩=some (.pointer (some ⟨P.mb,P.mo,none⟩))∧w'.cell? ⟨w.heap.size,1,none⟩=some (.int .i64 c.p)∧w'.cell? ⟨w.heap.size,2,none⟩=some (.int .i64 c.v)∧w'.cell? ⟨w.heap.size,3,none⟩=some (.int .i64 c.u)) [7,10] ?_;have hHeld:=(⟨nc.2.2.2.2,lc.1,lc.2.1,lc.2.2.1,lc.2.2.2⟩:_∧_∧_∧_∧_);refine vW 0 rfl ?_;refine vW 1 rfl ?_;refine vW 2 rfl ?_;refine vT 3 rfl ?_;refine vT 4 rfl ?_;refine vW 5 rfl ?_;refine vW 6 rfl ?_;refine nT 7 rfl fun K hK=> ?_;go_simp;refine(HC.out).mono ?_;rintro y w2 ⟨rfl,hm,hpost⟩;have HPo:=qd hpost;have hR2:=HR.out.mod ((Mod.drewN S W 1).then hm) (by intro hk;have:=hS _ hk;omega);have HR2:=qd hR2;have rc:=hR2.c3;have rf:=hR2.f3;clear hpost hm hR2;go_wp2_with fail;refine kO hK ?_;clear hK K;refine vL 8 rfl ?_;refine vL 9 rfl ?_;refine nT 10 rfl fun K hK=> ?_
 go_simp;refine kO hK ?_;clear hK K;refine vL 11 rfl ?_;refine doneT (by kernel_rfl) ?_ _;have hR3:=((HR2.out.set_ 0 (.int .u64 (e0.key:Int))).set_ 1 (.int .u64 (e0.val:Int))).set_ 2 (.int .u64 (e0.hash:Int));simp only[pt]at hR3;refine nameW (F:=fun v=>Blk v (w.heap.size+1) 126 #[.int .u64 (e0.key:Int),.int .u64 (e0.val:Int),.int .u64 (e0.hash:Int)]∧Mod [w.heap.size+1] w2 v) ⟨hR3,(((Mod.refl [w.heap.size+1] w2).set_ (b:=w.heap.size+1) (.inl (by simp)) 0 (.int .u64 (e0.key:Int))).set_ (b:=w.heap.size+1) (.inl (by simp)) 1 (.int .u64 (e0.val:Int))).set_ (b:=w.heap.size+1) (.inl (by simp)) 2 (.int .u64 (e0.hash:Int))⟩ ?_;rintro w3 ⟨hR4,hm3⟩;clear hR3 rc rf;have rx:=hR4.c3;clear hR4;have HFin:=qd (show Through Post w w3 from⟨W.drew,w2,w.heap.size+1,HWB.out.trans ((Below.refl _ _).drew.mono HWB.out.size),HPo.out,by omega,HR.out.lt,hm3⟩);clear hm3;go_wp2;refine bodyPost_ret (v:= .tuple #[.agg #[.int .u64 (e0.key:Int),.int .u64 (e0.val:Int),.int .u64 (e0.hash:Int)],.bool b0]) (by simp[results,Tryz.results157,go_sem,rx.1,rx.2.1,rx.2.2]) rfl ⟨rfl,HFin.out⟩
theorem node_Least_tab (nb tb:Nat)(pfx dpt job a b:Int)(P:MP)(c:Cnt)(e0:Ent)(b0:Bool)(S:List Nat)(Post:World→World→Prop)(w:World)(hnd:Blk w nb 151 #[.int .i64 pfx,.int .i64 dpt,.pointer (some ⟨tb,0,none⟩),.int .i64 job,.pointer none])(hS:∀k∈S,k<w.heap.size)
  (HC:∀V,Below w.heap.size w V→Calls Tryz.prog 200 #[.pointer (some ⟨tb,0,none⟩),lensV (some ⟨P.mb,P.mo,none⟩) c,.int .u64 a,.int .u64 b] V fun e V'=>e= .returned (.tuple #[entV e0,.bool b0])∧Mod S V V'∧Post V V'):
  Calls Tryz.prog 157 #[nodeP nb,lensV (some ⟨P.mb,P.mo,none⟩) c,.int .u64 a,.int .u64 b] w fun e w'=>e= .returned (.tuple #[entV e0,.bool b0])∧Through Post w w':=by
 obtain⟨W,hW,hB,hL,hR⟩:=qX2 w 123 #[.pointer (some ⟨P.mb,P.mo,none⟩),.int .i64 c.p,.int .i64 c.v,.int .i64 c.u] 126 #[.int .u64 0,.int .u64 0,.int .u64 0];have hnl:=hnd.lt;have hwl:w.heap.size<W.heap.size:=hL.lt;have HW:=qd hW;have HWB:=qd hB;have HC:=qd (HC W.drew (hB.trans ((Below.refl _ _).drew.mono hB.size)));unfold nodeP;unfold lensV entV at HC⊢;have HN:=qd (hnd.below hB hnd.lt);have HL:=qd (hL);have HR:=qd (hR);have Hmod:=qd (Mod.of_below hB []);clear hW hB hnd hL hR;go_in;go_upto_region 1 with fail;rw[←HW.out];have nc:=HN.out.c5;have lc:=HL.out.c4;go_upto_region 3 with fail;refine rT (fun(w':World)=>w'.cell? ⟨nb,2,none⟩=some (.pointer (some ⟨tb,0,none⟩))∧w'.cell? ⟨w.heap.size,0,none⟩=some (.pointer (some ⟨P.mb,P.mo,none⟩))∧w'.cell? ⟨w.heap.size,1,none⟩=some (.int .i64 c.p)∧w'.cell? ⟨w.heap.size,2,none⟩=some (.int .i64 c.v)∧w'.cell? ⟨w.heap.size,3,none⟩=some (.int .i64 c.u)) [7,10] ?_;have hHeld:=(⟨nc.2.2.1,lc.1,lc.2.1,lc.2.2.1,lc.2.2.2⟩:_∧_∧_∧_∧_);refine vW 0 rfl ?_;refine vW 1 rfl ?_;refine vW 2 rfl ?_;refine vT 3 rfl ?_;refine vT 4 rfl ?_;refine vW 5 rfl ?_;refine vW 6 rfl ?_;refine nT 7 rfl fun K hK=> ?_;go_simp;refine(HC.out).mono ?_;rintro y w2 ⟨rfl,hm,hpost⟩;have HPo:=qd hpost;have hR2:=HR.out.mod ((Mod.drewN S W 1).then hm) (by intro hk;have:=hS _ hk;omega);have HR2:=qd hR2;have rc:=hR2.c3;have rf:=hR2.f3;clear hpost hm hR2;go_wp2_with fail;refine kO hK ?_;clear hK K;refine vL 8 rfl ?_;refine vL 9 rfl ?_;refine nT 10 rfl fun K hK=> ?_
 go_simp;refine kO hK ?_;clear hK K;refine vL 11 rfl ?_;refine doneT (by kernel_rfl) ?_ _;have hR3:=((HR2.out.set_ 0 (.int .u64 (e0.key:Int))).set_ 1 (.int .u64 (e0.val:Int))).set_ 2 (.int .u64 (e0.hash:Int));simp only[pt]at hR3;refine nameW (F:=fun v=>Blk v (w.heap.size+1) 126 #[.int .u64 (e0.key:Int),.int .u64 (e0.val:Int),.int .u64 (e0.hash:Int)]∧Mod [w.heap.size+1] w2 v) ⟨hR3,(((Mod.refl [w.heap.size+1] w2).set_ (b:=w.heap.size+1) (.inl (by simp)) 0 (.int .u64 (e0.key:Int))).set_ (b:=w.heap.size+1) (.inl (by simp)) 1 (.int .u64 (e0.val:Int))).set_ (b:=w.heap.size+1) (.inl (by simp)) 2 (.int .u64 (e0.hash:Int))⟩ ?_;rintro w3 ⟨hR4,hm3⟩;clear hR3 rc rf;have rx:=hR4.c3;clear hR4;have HFin:=qd (show Through Post w w3 from⟨W.drew,w2,w.heap.size+1,HWB.out.trans ((Below.refl _ _).drew.mono HWB.out.size),HPo.out,by omega,HR.out.lt,hm3⟩);clear hm3;go_wp2;refine bodyPost_ret (v:= .tuple #[.agg #[.int .u64 (e0.key:Int),.int .u64 (e0.val:Int),.int .u64 (e0.hash:Int)],.bool b0]) (by simp[results,Tryz.results157,go_sem,rx.1,rx.2.1,rx.2.2]) rfl ⟨rfl,HFin.out⟩
end Go.Proofs.YtflbmgpmnocnbaaGreatDoor
