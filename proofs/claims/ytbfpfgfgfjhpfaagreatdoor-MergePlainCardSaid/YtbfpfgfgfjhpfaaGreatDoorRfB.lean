/- amblerref26.Func: Put. No statement of the claim. -/
import Derived.Test.YtbfpfgfgfjhpfaaGreatDoorDnA
import Derived.Test.YtbfpfgfgfjhpfaaGreatDoorPlA
import Derived.Test.YtbfpfgfgfjhpfaaGreatDoorCoG
import Derived.Test.YtbfpfgfgfjhpfaaGreatDoorSq
namespace Go.Proofs.YtbfpfgfgfjhpfaaGreatDoor
set_option maxRecDepth 100000
set_option maxHeartbeats 8000000
open Go.RowKit dP zW
theorem Z9:(Tryz.prog.info? 35).map (fun i=>(i.zero,i.size,i.bytes))=some (some (.int .u64 0),1,8):=by kernel_rfl
theorem iy:vX Tryz.prog 55 35 1 8:=Ga Tryz.underlying55 Z9 rfl (by decide) (by decide)
theorem vS (l:PL):((l.map kC).all fun u=>u.oneCell')=true:=by
 rw[List.all_eq_true];intro u hu;obtain⟨q,_,rfl⟩:=List.mem_map.1 hu;rfl
theorem PY (l:PL):((l.map vC).all fun u=>u.oneCell')=true:=by
 rw[List.all_eq_true];intro u hu;obtain⟨q,_,rfl⟩:=List.mem_map.1 hu;rfl
section
variable {P : Program} {ops : Array Oper} {Q : Exit → Act → World → Prop} {md : Region.Mode} {S : World → Prop} {late : List Nat} {WW : Nat → Array Bool → Act → World → Prop} {f : Nat} {L : Array Bool} {a : Act} {v : World}
theorem outT (h:WW=fun f L a v=>bH P md ops Q S late f L a v)(h1:WW f L a v):bH P md ops Q S late f L a v:=by subst h;exact h1
theorem inT (h:WW=fun f L a v=>bH P md ops Q S late f L a v)(h1:bH P md ops Q S late f L a v):WW f L a v:=by subst h;exact h1
theorem adA {f':Nat}{L':Array Bool}{a':Act}(h:WW f L a v)(hf:f'=f)(hL:L'=L)(ha:a'=a):WW f' L' a' v:=by subst hf;subst hL;subst ha;exact h
end
def oI (w:World)(base fb M:Nat)(l:PL):Prop:=∃A c B d,aj w fb 57 #[.int .i64 (M:Int),.slice A l.length c,.slice B l.length d]∧w.ownsRow base 35 1 (.slice A l.length c) l.length (l.map kC)∧w.ownsRow base 35 1 (.slice B l.length d) l.length (l.map vC)
def aac (w:World)(fb M:Nat)(l:PL)(w':World):Prop:=(∃A c B d,aj w' fb 57 #[.int .i64 (M:Int),.slice A l.length c,.slice B l.length d]∧w'.ownsRow w.heap.size 35 1 (.slice A l.length c) l.length (l.map kC)∧w'.ownsRow w.heap.size 35 1 (.slice B l.length d) l.length (l.map vC))∧Mod [fb] w w'
def eX (fb n M c d key val:Nat)(A B:Option Addr)(y40 y45 y47 y48 y49 y54 y56 y57:Value):Array Value:= #[.pointer (some ⟨fb,0,none⟩),.int .u64 (key:Int),.int .u64 (val:Int),undef,undef,undef,.int .i64 0,.int .i64 (-1),undef,.pointer (some ⟨fb,0,none⟩),.int .u64 (key:Int),.int .i64 (-1),.int .i64 (-1),.bool false,undef,undef,undef,undef,undef,undef,undef,undef,undef,undef,undef,undef,undef,undef,.pointer (some ⟨fb,0,none⟩),.pointer (some ⟨fb,0,none⟩),.pointer (some ⟨fb,1,none⟩),.slice A n c,.int .i64 (n:Int),.pointer (some ⟨fb,0,none⟩),.pointer (some ⟨fb,0,none⟩),.pointer (some ⟨fb,0,none⟩),.int .i64 (M:Int),.bool false,.pointer (some ⟨fb,0,none⟩),.pointer (some ⟨fb,0,none⟩),y40,.pointer (some ⟨fb,0,none⟩),.pointer (some ⟨fb,0,none⟩),.pointer (some ⟨fb,1,none⟩),.slice A n c,y45,.int .u64 (key:Int),y47,y48,y49,.pointer (some ⟨fb,0,none⟩),.pointer (some ⟨fb,0,none⟩),.pointer (some ⟨fb,2,none⟩),.slice B n d,y54,.int .u64 (val:Int),y56,y57,undef,undef,undef,undef]
theorem yN {w w':World}{S:List Nat}{base n sz:Nat}{t:TypeId}{v:Value}{xs:List Value}(h:w.ownsRow base t sz v n xs)(hm:Mod S w w')(hS:∀k∈S,k<base):w'.ownsRow base t sz v n xs:=by
 refine⟨h.1, ?_⟩;rcases h.2 with k|⟨g,cap,cur,rfl,k2,k3,k4⟩
 ·exact .inl k
 ·refine .inr ⟨g,cap,cur,rfl,k2, ?_,k4⟩;rw[hm.block g (Array.getElem?_eq_some_iff.1 k3).1 (fun hg=>Nat.not_lt.2 k2 (hS g hg))];exact k3
theorem Jm {w:World}{fb M c d:Nat}{A B:Option Addr}{l:PL}(hB:aj w fb 57 #[.int .i64 (M:Int),.slice A l.length c,.slice B l.length d])(hR:Reads w w.heap.size 1 A l.length (l.map kC))(hV:Reads w w.heap.size 1 B l.length (l.map vC))(h9:l.length≤1000)(key val:Nat)(hk:∀q∈l,q.1≠key)(hM:l.length<M):
  Calls Tryz.prog 18 #[.pointer (some ⟨fb,0,none⟩),.int .u64 (key:Int),.int .u64 (val:Int)] w fun e w'=>e= .returned (.int .i64 0)∧aac w fb M (l++[(key,val)]) w':=by
 have HF:=qd (ES hB hR h9 key);obtain⟨n,hn⟩:∃n,n=l.length:=⟨_,rfl⟩;have HN:=qd hn
 have hM':¬(M:Int)≤(n:Int):=by omega
 have hn9:n≤1000:=by omega
 have hdM:decide (M≤n)=false:=decide_eq_false (by omega);have hlt:=hB.lt
 have LB:=qd (show∀(v:World) (A':Option Addr) (c':Nat) (B':Option Addr) (d':Nat),Below w.heap.size w v→v.ownsRow w.heap.size 35 1 (.slice A' ((0+n)+1) c') ((0+n)+1) (((#[]:Array Value).toList++l.map kC)++(#[.int .u64 (key:Int)]:Array Value).toList)→v.ownsRow w.heap.size 35 1 (.slice B' ((0+n)+1) d') ((0+n)+1) (((#[]:Array Value).toList++l.map vC)++(#[.int .u64 (val:Int)]:Array Value).toList)→((Value.slice A' ((0+n)+1) c').ownBlock=none∨(Value.slice A' ((0+n)+1) c').ownBlock≠(Value.slice B' ((0+n)+1) d').ownBlock)→aac w fb M (l++[(key,val)]) ((v.setCell ⟨fb,1,none⟩ (.slice A' ((0+n)+1) c')).setCell ⟨fb,2,none⟩ (.slice B' ((0+n)+1) d'))from fun v A' c' B' d' hb o0 o2 _=>by
  have R7:=hB.below hb hlt
  have hnn:(0+n+1)=(l++[(key,val)]).length:=by rw[hn,List.length_append];simp
  refine⟨⟨A',c',B',d', ?_, ?_, ?_⟩,((Mod.of_below hb [fb]).sl 1 _).sl 2 _⟩
  ·rw[←hnn];have h1:=(R7.ak 1 (.slice A' (0+n+1) c')).ak 2 (.slice B' (0+n+1) d');simpa only[List.setIfInBounds_toArray,List.set_cons_zero,List.set_cons_succ]using h1
  ·rw[←hnn];have h1:=yN (yN o0 ((Mod.refl [fb] v).sl 1 (.slice A' (0+n+1) c')) (by simpa using hlt)) ((Mod.refl [fb] _).sl 2 (.slice B' (0+n+1) d')) (by simpa using hlt);simpa[kC]using h1
  ·rw[←hnn];have h1:=yN (yN o2 ((Mod.refl [fb] v).sl 1 (.slice A' (0+n+1) c')) (by simpa using hlt)) ((Mod.refl [fb] _).sl 2 (.slice B' (0+n+1) d')) (by simpa using hlt)
   simpa[vC]using h1)
 rw[←hn]at hB hR hV;have HB0:=qd hB;have HK0:=qd hR;have ay:=qd hV;obtain⟨c0,c1,c2⟩:=hB.c3;clear hB hR hV hn h9 hM;go_in;go_wp2_with fail;refine HF.out.mono ?_;rintro x wq ⟨y,rfl,hfp,rfl⟩;clear HF
 obtain rfl:y= -1:=by
  rcases hfp with⟨i,q,hi,hq,_⟩|⟨_,h⟩
  ·exact absurd hq (hk q (List.mem_of_getElem? hi))
  ·exact h
 clear hfp hk;go_wp2;go_region;go_upto_region 9 with fail
 try simp only[hdM]
 refine bU (F:=fun v=>aj v fb 57 #[.int .i64 (M:Int),.slice A n c,.slice B n d]∧Reads v v.heap.size 1 A n (l.map kC)∧Reads v v.heap.size 1 B n (l.map vC)∧fb<v.heap.size∧v.cell? ⟨fb,1,none⟩=some (.slice A n c)∧v.cell? ⟨fb,2,none⟩=some (.slice B n d)∧(∀(u:World) (A':Option Addr) (c':Nat) (B':Option Addr) (d':Nat),Below v.heap.size v u→u.ownsRow v.heap.size 35 1 (.slice A' ((0+n)+1) c') ((0+n)+1) (((#[]:Array Value).toList++l.map kC)++(#[.int .u64 (key:Int)]:Array Value).toList)→u.ownsRow v.heap.size 35 1 (.slice B' ((0+n)+1) d') ((0+n)+1) (((#[]:Array Value).toList++l.map vC)++(#[.int .u64 (val:Int)]:Array Value).toList)→((Value.slice A' ((0+n)+1) c').ownBlock=none∨(Value.slice A' ((0+n)+1) c').ownBlock≠(Value.slice B' ((0+n)+1) d').ownBlock)→aac w fb M (l++[(key,val)]) ((u.setCell ⟨fb,1,none⟩ (.slice A' ((0+n)+1) c')).setCell ⟨fb,2,none⟩ (.slice B' ((0+n)+1) d')))) ⟨HB0.out.drew,HK0.out,ay.out,hlt,c1,c2,fun u A' c' B' d' hb o0 o2 ha=>LB.out u A' c' B' d' (((Below.refl w.heap.size w).drew).trans hb) o0 o2 ha⟩ ?_;rintro w1 ⟨hB1,hK1,hV1,iB,c1',c2',hE1⟩;clear c1 c2 HB0 HK0 ay LB hlt c0;have c1:=c1';have c2:=c2';have HB:=qd hB1;have HK:=qd hK1;have HV:=qd hV1;have PI:=qd hE1;clear c1' c2' hB1 hK1 hV1 hE1;refine rT (fun(w':World)=>w'.cell? ⟨fb,1,none⟩=some (.slice A n c)∧w'.cell? ⟨fb,2,none⟩=some (.slice B n d)) [22,23,24,25] ?_;have hHeld:=(⟨c1,c2⟩:_∧_);refine vW 0 rfl ?_;refine vW 1 rfl ?_;refine vW 3 rfl ?_;refine vW 4 rfl ?_;refine vW 5 rfl ?_
 refine vT 6 rfl ?_;refine vW 8 rfl ?_;refine vW 12 rfl ?_;refine vW 13 rfl ?_;refine vW 14 rfl ?_;refine vT 15 rfl ?_;refine vW 17 rfl ?_;have hC:∀v:World,Below w1.heap.size w1 v→(fun(w':World)=>w'.cell? ⟨fb,1,none⟩=some (.slice A n c)∧w'.cell? ⟨fb,2,none⟩=some (.slice B n d)) v:=fun v hv=>⟨(hv.cell iB).trans c1,(hv.cell iB).trans c2⟩;refine aaT fun WW bq=> ?_;have hr0:bB w1.heap.size 35 1 w1 w1.drew [none,none,none,none]:=⟨(Below.refl _ _).drew,Nat.le_refl _,fun i r h=>by rcases i with _|_|_|_|i<;>simp at h,fun i j r s _ h=>by rcases i with _|_|_|_|i<;>simp at h⟩
 have zS:∀(aZ:Nat) (dO:Value) (g47:Nat) (iN:Value) (bV:Nat) (x54:Value) (dh:Nat) (x57:Value) (v:World),bB w1.heap.size 35 1 w1 v [some ⟨iN,((0+n)+1),(((#[]:Array Value).toList++l.map kC)++(#[.int .u64 (key:Int)]:Array Value).toList)⟩,none,some ⟨x57,((0+n)+1),(((#[]:Array Value).toList++l.map vC)++(#[.int .u64 (val:Int)]:Array Value).toList)⟩,none]→WW 6 #[true,true,true,true,true,true,true,true,true,true,true,true,true,true,true,true,true,true,true,true,false,false,false,false,false,false] ⟨eX fb n M c d key val A B (.slice (some ⟨aZ,0,none⟩) 0 0) dO (.slice (some ⟨g47,0,none⟩) 1 1) iN (.slice (some ⟨bV,0,none⟩) 0 0) x54 (.slice (some ⟨dh,0,none⟩) 1 1) x57,[]⟩ v:=by
  intro aZ dO g47 iN bV x54 dh x57 v hr;refine inT bq ?_;unfold eX;have o0:=hr.own 0 _ rfl;have o2:=hr.own 2 _ rfl;have qE:=hr.below;have hap:=hr.apart 0 2 _ _ (by decide) rfl rfl;simp only at o0 o2 hap;obtain⟨A',c',rfl⟩:=aU o0;obtain⟨B',d',rfl⟩:=aU o2;have hB9:=HB.out.below qE iB;have f1:=hB9.frozen 1;have f2:=hB9.frozen 2;have e1:=hB9.cell 1;have e2:=hB9.cell 2;simp only[gl]at e1 e2;refine p9 (i:=20) (o:=⟨some 58,_,_,_,_,_⟩) rfl (by kernel_rfl) (fun Kn hK=> ?_);go_simp;refine hK.out _ _ (fun _=>hC _ qE) ?_;clear hK Kn
  try simp only[pt]
  refine p9 (i:=21) (o:=⟨some 59,_,_,_,_,_⟩) rfl (by kernel_rfl) (fun Kn hK=> ?_);go_simp;refine hK.out _ _ (fun _=>hC _ qE) ?_;clear hK Kn
  try simp only[pt]
  refine p9 (i:=22) (o:=⟨none,_,_,_,_,_⟩) rfl (by kernel_rfl) (fun Kn hK=> ?_);go_simp;refine hK.out _ _ (fun h=>absurd (by decide) h) ?_;clear hK Kn
  try simp only[pt]
  refine p9 (i:=23) (o:=⟨some 60,_,_,_,_,_⟩) rfl (by kernel_rfl) (fun Kn hK=> ?_);go_simp;refine hK.out _ _ (fun h=>absurd (by decide) h) ?_;clear hK Kn
  try simp only[pt]
  refine p9 (i:=24) (o:=⟨some 61,_,_,_,_,_⟩) rfl (by kernel_rfl) (fun Kn hK=> ?_);go_simp;refine hK.out _ _ (fun h=>absurd (by decide) h) ?_;clear hK Kn
  try simp only[pt]
  refine p9 (i:=25) (o:=⟨none,_,_,_,_,_⟩) rfl (by kernel_rfl) (fun Kn hK=> ?_);go_simp;refine hK.out _ _ (fun h=>absurd (by decide) h) ?_;clear hK Kn
  try simp only[pt]
  refine aY (by kernel_rfl) ?_ _;go_wp2;refine bodyPost_ret (v:= .int .i64 0) (by simp[results,Tryz.results18,go_sem]) rfl ⟨rfl, ?_⟩;have hE:=PI.out v A' c' B' d' qE o0 o2 hap;simp only[Nat.zero_add]at hE;exact hE
 have uy:∀(aZ:Nat) (dO:Value) (g47:Nat) (iN:Value) (bV:Nat) (x54:Value) (dh:Nat) (v:World),bB w1.heap.size 35 1 w1 v [some ⟨iN,((0+n)+1),(((#[]:Array Value).toList++l.map kC)++(#[.int .u64 (key:Int)]:Array Value).toList)⟩,none,some ⟨x54,(0+n),((#[]:Array Value).toList++l.map vC)⟩,some ⟨.slice (some ⟨dh,0,none⟩) 1 1,1,(#[.int .u64 (val:Int)]:Array Value).toList⟩]→WW 7 #[true,true,true,true,true,true,true,true,true,true,true,true,true,true,true,true,true,true,true,false,false,false,false,false,false,false] ⟨eX fb n M c d key val A B (.slice (some ⟨aZ,0,none⟩) 0 0) dO (.slice (some ⟨g47,0,none⟩) 1 1) iN (.slice (some ⟨bV,0,none⟩) 0 0) x54 (.slice (some ⟨dh,0,none⟩) 1 1) undef,[]⟩ v:=by
  intro aZ dO g47 iN bV x54 dh v hr;refine inT bq ?_;unfold eX;refine eU (is:=[19]) (by kernel_rfl) (by simp) ⟨⟨⟨some 57,_,_,_,_,_⟩,rfl,fun Kn hK=> ?_⟩,trivial⟩
  ·refine dN (by rfl) (by rfl) iy (hr.own 2 _ rfl) (by rfl) (by rfl) (hr.reads 3 rfl rfl) (by rfl) (by first|omega|(simp;omega)) (Nat.le_trans hr.base hr.below.size) ?_;intro v4 w4 fO hg4;have hn:=hr.grow 2 rfl hg4 fO;replace hn:=hn.drop 3;refine hK.out _ _ (fun _=>hC _ hn.below) ?_
   try simp only[pt]
   exact outT bq (zS aZ dO g47 iN bV x54 dh _ _ hn)
 have GX:∀(aZ:Nat) (dO:Value) (g47:Nat) (iN:Value) (bV:Nat) (x54:Value) (v:World),bB w1.heap.size 35 1 w1 v [some ⟨iN,((0+n)+1),(((#[]:Array Value).toList++l.map kC)++(#[.int .u64 (key:Int)]:Array Value).toList)⟩,none,some ⟨x54,(0+n),((#[]:Array Value).toList++l.map vC)⟩,none]→WW 8 #[true,true,true,true,true,true,true,true,true,true,true,true,true,true,true,true,true,true,false,false,false,false,false,false,false,false] ⟨eX fb n M c d key val A B (.slice (some ⟨aZ,0,none⟩) 0 0) dO (.slice (some ⟨g47,0,none⟩) 1 1) iN (.slice (some ⟨bV,0,none⟩) 0 0) x54 undef undef,[]⟩ v:=by
  intro aZ dO g47 iN bV x54 v hr;refine inT bq ?_;unfold eX;refine eU (is:=[18]) (by kernel_rfl) (by simp) ⟨⟨⟨some 56,_,_,_,_,_⟩,rfl,fun Kn hK=> ?_⟩,trivial⟩
  ·have hn:=hr.new 3 #[.int .u64 (val:Int)] 1 rfl (by decide);go_simp;refine hK.out _ _ (fun _=>hC _ hn.below) ?_
   try simp only[pt]
   exact outT bq (uy aZ dO g47 iN bV x54 _ _ hn)
 have rD:∀(aZ:Nat) (dO:Value) (g47:Nat) (iN:Value) (bV:Nat) (dh:Nat) (v:World),bB w1.heap.size 35 1 w1 v [some ⟨iN,((0+n)+1),(((#[]:Array Value).toList++l.map kC)++(#[.int .u64 (key:Int)]:Array Value).toList)⟩,none,some ⟨.slice (some ⟨bV,0,none⟩) 0 0,0,(#[]:Array Value).toList⟩,some ⟨.slice (some ⟨dh,0,none⟩) 1 1,1,(#[.int .u64 (val:Int)]:Array Value).toList⟩]→WW 8 #[true,true,true,true,true,true,true,true,true,true,true,true,true,true,true,true,false,true,true,false,false,false,false,false,false,false] ⟨eX fb n M c d key val A B (.slice (some ⟨aZ,0,none⟩) 0 0) dO (.slice (some ⟨g47,0,none⟩) 1 1) iN (.slice (some ⟨bV,0,none⟩) 0 0) undef (.slice (some ⟨dh,0,none⟩) 1 1) undef,[]⟩ v:=by
  intro aZ dO g47 iN bV dh v hr;refine inT bq ?_;unfold eX;refine eU (is:=[16]) (by kernel_rfl) (by simp) ⟨⟨⟨some 54,_,_,_,_,_⟩,rfl,fun Kn hK=> ?_⟩,trivial⟩
  ·refine dN (by rfl) (by rfl) iy (hr.own 2 _ rfl) (by rfl) (by rfl) ((HV.out.below hr.below).more (Nat.le_trans hr.base hr.below.size)) (PY l) (by first|omega|(simp;omega)) (Nat.le_trans hr.base hr.below.size) ?_;intro v4 w4 fO hg4;have hn:=hr.grow 2 rfl hg4 fO;refine hK.out _ _ (fun _=>hC _ hn.below) ?_
   try simp only[pt]
   exact outT bq (uy aZ dO g47 iN bV _ dh _ hn)
 have CQ:∀(aZ:Nat) (dO:Value) (g47:Nat) (iN:Value) (bV:Nat) (v:World),bB w1.heap.size 35 1 w1 v [some ⟨iN,((0+n)+1),(((#[]:Array Value).toList++l.map kC)++(#[.int .u64 (key:Int)]:Array Value).toList)⟩,none,some ⟨.slice (some ⟨bV,0,none⟩) 0 0,0,(#[]:Array Value).toList⟩,none]→WW 9 #[true,true,true,true,true,true,true,true,true,true,true,true,true,true,true,true,false,true,false,false,false,false,false,false,false,false] ⟨eX fb n M c d key val A B (.slice (some ⟨aZ,0,none⟩) 0 0) dO (.slice (some ⟨g47,0,none⟩) 1 1) iN (.slice (some ⟨bV,0,none⟩) 0 0) undef undef undef,[]⟩ v:=by
  intro aZ dO g47 iN bV v hr;refine inT bq ?_;unfold eX;refine eU (is:=[16,18]) (by kernel_rfl) (by simp) ⟨⟨⟨some 54,_,_,_,_,_⟩,rfl,fun Kn hK=> ?_⟩,⟨⟨some 56,_,_,_,_,_⟩,rfl,fun Kn hK=> ?_⟩,trivial⟩
  ·refine dN (by rfl) (by rfl) iy (hr.own 2 _ rfl) (by rfl) (by rfl) ((HV.out.below hr.below).more (Nat.le_trans hr.base hr.below.size)) (PY l) (by first|omega|(simp;omega)) (Nat.le_trans hr.base hr.below.size) ?_;intro v4 w4 fO hg4;have hn:=hr.grow 2 rfl hg4 fO;refine hK.out _ _ (fun _=>hC _ hn.below) ?_
   try simp only[pt]
   exact outT bq (GX aZ dO g47 iN bV _ _ hn)
  ·have hn:=hr.new 3 #[.int .u64 (val:Int)] 1 rfl (by decide);go_simp;refine hK.out _ _ (fun _=>hC _ hn.below) ?_
   try simp only[pt]
   exact outT bq (rD aZ dO g47 iN bV _ _ hn)
 have CR:∀(aZ:Nat) (dO:Value) (g47:Nat) (iN:Value) (dh:Nat) (v:World),bB w1.heap.size 35 1 w1 v [some ⟨iN,((0+n)+1),(((#[]:Array Value).toList++l.map kC)++(#[.int .u64 (key:Int)]:Array Value).toList)⟩,none,none,some ⟨.slice (some ⟨dh,0,none⟩) 1 1,1,(#[.int .u64 (val:Int)]:Array Value).toList⟩]→WW 9 #[true,true,true,true,true,true,true,true,true,true,true,false,true,true,true,true,false,true,true,false,false,false,false,false,false,false] ⟨eX fb n M c d key val A B (.slice (some ⟨aZ,0,none⟩) 0 0) dO (.slice (some ⟨g47,0,none⟩) 1 1) iN undef undef (.slice (some ⟨dh,0,none⟩) 1 1) undef,[]⟩ v:=by
  intro aZ dO g47 iN dh v hr;refine inT bq ?_;unfold eX;refine eU (is:=[11]) (by kernel_rfl) (by simp) ⟨⟨⟨some 49,_,_,_,_,_⟩,rfl,fun Kn hK=> ?_⟩,trivial⟩
  ·have hn:=hr.new 2 #[] 0 rfl (by decide);go_simp;refine hK.out _ _ (fun _=>hC _ hn.below) ?_
   try simp only[pt]
   exact outT bq (rD aZ dO g47 iN _ dh _ hn)
 have qX:∀(aZ:Nat) (dO:Value) (g47:Nat) (bV:Nat) (dh:Nat) (v:World),bB w1.heap.size 35 1 w1 v [some ⟨dO,(0+n),((#[]:Array Value).toList++l.map kC)⟩,some ⟨.slice (some ⟨g47,0,none⟩) 1 1,1,(#[.int .u64 (key:Int)]:Array Value).toList⟩,some ⟨.slice (some ⟨bV,0,none⟩) 0 0,0,(#[]:Array Value).toList⟩,some ⟨.slice (some ⟨dh,0,none⟩) 1 1,1,(#[.int .u64 (val:Int)]:Array Value).toList⟩]→WW 9 #[true,true,true,true,true,true,true,true,true,true,false,true,true,true,true,true,false,true,true,false,false,false,false,false,false,false] ⟨eX fb n M c d key val A B (.slice (some ⟨aZ,0,none⟩) 0 0) dO (.slice (some ⟨g47,0,none⟩) 1 1) undef (.slice (some ⟨bV,0,none⟩) 0 0) undef (.slice (some ⟨dh,0,none⟩) 1 1) undef,[]⟩ v:=by
  intro aZ dO g47 bV dh v hr;refine inT bq ?_;unfold eX;refine eU (is:=[10]) (by kernel_rfl) (by simp) ⟨⟨⟨some 48,_,_,_,_,_⟩,rfl,fun Kn hK=> ?_⟩,trivial⟩
  ·refine dN (by rfl) (by rfl) iy (hr.own 0 _ rfl) (by rfl) (by rfl) (hr.reads 1 rfl rfl) (by rfl) (by first|omega|(simp;omega)) (Nat.le_trans hr.base hr.below.size) ?_;intro v4 w4 fO hg4;have hn:=hr.grow 0 rfl hg4 fO;replace hn:=hn.drop 1;refine hK.out _ _ (fun _=>hC _ hn.below) ?_
   try simp only[pt]
   exact outT bq (rD aZ dO g47 _ bV dh _ hn)
 have UQ:∀(aZ:Nat) (dO:Value) (g47:Nat) (iN:Value) (v:World),bB w1.heap.size 35 1 w1 v [some ⟨iN,((0+n)+1),(((#[]:Array Value).toList++l.map kC)++(#[.int .u64 (key:Int)]:Array Value).toList)⟩,none,none,none]→WW 10 #[true,true,true,true,true,true,true,true,true,true,true,false,true,true,true,true,false,true,false,false,false,false,false,false,false,false] ⟨eX fb n M c d key val A B (.slice (some ⟨aZ,0,none⟩) 0 0) dO (.slice (some ⟨g47,0,none⟩) 1 1) iN undef undef undef undef,[]⟩ v:=by
  intro aZ dO g47 iN v hr;refine inT bq ?_;unfold eX;refine eU (is:=[11,18]) (by kernel_rfl) (by simp) ⟨⟨⟨some 49,_,_,_,_,_⟩,rfl,fun Kn hK=> ?_⟩,⟨⟨some 56,_,_,_,_,_⟩,rfl,fun Kn hK=> ?_⟩,trivial⟩
  ·have hn:=hr.new 2 #[] 0 rfl (by decide);go_simp;refine hK.out _ _ (fun _=>hC _ hn.below) ?_
   try simp only[pt]
   exact outT bq (CQ aZ dO g47 iN _ _ hn)
  ·have hn:=hr.new 3 #[.int .u64 (val:Int)] 1 rfl (by decide);go_simp;refine hK.out _ _ (fun _=>hC _ hn.below) ?_
   try simp only[pt]
   exact outT bq (CR aZ dO g47 iN _ _ hn)
 have Ci:∀(aZ:Nat) (dO:Value) (g47:Nat) (bV:Nat) (v:World),bB w1.heap.size 35 1 w1 v [some ⟨dO,(0+n),((#[]:Array Value).toList++l.map kC)⟩,some ⟨.slice (some ⟨g47,0,none⟩) 1 1,1,(#[.int .u64 (key:Int)]:Array Value).toList⟩,some ⟨.slice (some ⟨bV,0,none⟩) 0 0,0,(#[]:Array Value).toList⟩,none]→WW 10 #[true,true,true,true,true,true,true,true,true,true,false,true,true,true,true,true,false,true,false,false,false,false,false,false,false,false] ⟨eX fb n M c d key val A B (.slice (some ⟨aZ,0,none⟩) 0 0) dO (.slice (some ⟨g47,0,none⟩) 1 1) undef (.slice (some ⟨bV,0,none⟩) 0 0) undef undef undef,[]⟩ v:=by
  intro aZ dO g47 bV v hr;refine inT bq ?_;unfold eX;refine eU (is:=[10,18]) (by kernel_rfl) (by simp) ⟨⟨⟨some 48,_,_,_,_,_⟩,rfl,fun Kn hK=> ?_⟩,⟨⟨some 56,_,_,_,_,_⟩,rfl,fun Kn hK=> ?_⟩,trivial⟩
  ·refine dN (by rfl) (by rfl) iy (hr.own 0 _ rfl) (by rfl) (by rfl) (hr.reads 1 rfl rfl) (by rfl) (by first|omega|(simp;omega)) (Nat.le_trans hr.base hr.below.size) ?_;intro v4 w4 fO hg4;have hn:=hr.grow 0 rfl hg4 fO;replace hn:=hn.drop 1;refine hK.out _ _ (fun _=>hC _ hn.below) ?_
   try simp only[pt]
   exact outT bq (CQ aZ dO g47 _ bV _ hn)
  ·have hn:=hr.new 3 #[.int .u64 (val:Int)] 1 rfl (by decide);go_simp;refine hK.out _ _ (fun _=>hC _ hn.below) ?_
   try simp only[pt]
   exact outT bq (qX aZ dO g47 bV _ _ hn)
 have Cj:∀(aZ:Nat) (dO:Value) (g47:Nat) (dh:Nat) (v:World),bB w1.heap.size 35 1 w1 v [some ⟨dO,(0+n),((#[]:Array Value).toList++l.map kC)⟩,some ⟨.slice (some ⟨g47,0,none⟩) 1 1,1,(#[.int .u64 (key:Int)]:Array Value).toList⟩,none,some ⟨.slice (some ⟨dh,0,none⟩) 1 1,1,(#[.int .u64 (val:Int)]:Array Value).toList⟩]→WW 10 #[true,true,true,true,true,true,true,true,true,true,false,false,true,true,true,true,false,true,true,false,false,false,false,false,false,false] ⟨eX fb n M c d key val A B (.slice (some ⟨aZ,0,none⟩) 0 0) dO (.slice (some ⟨g47,0,none⟩) 1 1) undef undef undef (.slice (some ⟨dh,0,none⟩) 1 1) undef,[]⟩ v:=by
  intro aZ dO g47 dh v hr;refine inT bq ?_;unfold eX;refine eU (is:=[10,11]) (by kernel_rfl) (by simp) ⟨⟨⟨some 48,_,_,_,_,_⟩,rfl,fun Kn hK=> ?_⟩,⟨⟨some 49,_,_,_,_,_⟩,rfl,fun Kn hK=> ?_⟩,trivial⟩
  ·refine dN (by rfl) (by rfl) iy (hr.own 0 _ rfl) (by rfl) (by rfl) (hr.reads 1 rfl rfl) (by rfl) (by first|omega|(simp;omega)) (Nat.le_trans hr.base hr.below.size) ?_;intro v4 w4 fO hg4;have hn:=hr.grow 0 rfl hg4 fO;replace hn:=hn.drop 1;refine hK.out _ _ (fun _=>hC _ hn.below) ?_
   try simp only[pt]
   exact outT bq (CR aZ dO g47 _ dh _ hn)
  ·have hn:=hr.new 2 #[] 0 rfl (by decide);go_simp;refine hK.out _ _ (fun _=>hC _ hn.below) ?_
   try simp only[pt]
   exact outT bq (qX aZ dO g47 _ dh _ hn)
 have zT:∀(aZ:Nat) (dO:Value) (bV:Nat) (dh:Nat) (v:World),bB w1.heap.size 35 1 w1 v [some ⟨dO,(0+n),((#[]:Array Value).toList++l.map kC)⟩,none,some ⟨.slice (some ⟨bV,0,none⟩) 0 0,0,(#[]:Array Value).toList⟩,some ⟨.slice (some ⟨dh,0,none⟩) 1 1,1,(#[.int .u64 (val:Int)]:Array Value).toList⟩]→WW 10 #[true,true,true,true,true,true,true,true,true,false,false,true,true,true,true,true,false,true,true,false,false,false,false,false,false,false] ⟨eX fb n M c d key val A B (.slice (some ⟨aZ,0,none⟩) 0 0) dO undef undef (.slice (some ⟨bV,0,none⟩) 0 0) undef (.slice (some ⟨dh,0,none⟩) 1 1) undef,[]⟩ v:=by
  intro aZ dO bV dh v hr;refine inT bq ?_;unfold eX;refine eU (is:=[9]) (by kernel_rfl) (by simp) ⟨⟨⟨some 47,_,_,_,_,_⟩,rfl,fun Kn hK=> ?_⟩,trivial⟩
  ·have hn:=hr.new 1 #[.int .u64 (key:Int)] 1 rfl (by decide);go_simp;refine hK.out _ _ (fun _=>hC _ hn.below) ?_
   try simp only[pt]
   exact outT bq (qX aZ dO _ bV dh _ hn)
 have uW:∀(aZ:Nat) (g47:Nat) (bV:Nat) (dh:Nat) (v:World),bB w1.heap.size 35 1 w1 v [some ⟨.slice (some ⟨aZ,0,none⟩) 0 0,0,(#[]:Array Value).toList⟩,some ⟨.slice (some ⟨g47,0,none⟩) 1 1,1,(#[.int .u64 (key:Int)]:Array Value).toList⟩,some ⟨.slice (some ⟨bV,0,none⟩) 0 0,0,(#[]:Array Value).toList⟩,some ⟨.slice (some ⟨dh,0,none⟩) 1 1,1,(#[.int .u64 (val:Int)]:Array Value).toList⟩]→WW 10 #[true,true,true,true,true,true,true,false,true,true,false,true,true,true,true,true,false,true,true,false,false,false,false,false,false,false] ⟨eX fb n M c d key val A B (.slice (some ⟨aZ,0,none⟩) 0 0) undef (.slice (some ⟨g47,0,none⟩) 1 1) undef (.slice (some ⟨bV,0,none⟩) 0 0) undef (.slice (some ⟨dh,0,none⟩) 1 1) undef,[]⟩ v:=by
  intro aZ g47 bV dh v hr;refine inT bq ?_;unfold eX;refine eU (is:=[7]) (by kernel_rfl) (by simp) ⟨⟨⟨some 45,_,_,_,_,_⟩,rfl,fun Kn hK=> ?_⟩,trivial⟩
  ·refine dN (by rfl) (by rfl) iy (hr.own 0 _ rfl) (by rfl) (by rfl) ((HK.out.below hr.below).more (Nat.le_trans hr.base hr.below.size)) (vS l) (by first|omega|(simp;omega)) (Nat.le_trans hr.base hr.below.size) ?_;intro v4 w4 fO hg4;have hn:=hr.grow 0 rfl hg4 fO;refine hK.out _ _ (fun _=>hC _ hn.below) ?_
   try simp only[pt]
   exact outT bq (qX aZ _ g47 bV dh _ hn)
 have Sq:∀(aZ:Nat) (dO:Value) (g47:Nat) (v:World),bB w1.heap.size 35 1 w1 v [some ⟨dO,(0+n),((#[]:Array Value).toList++l.map kC)⟩,some ⟨.slice (some ⟨g47,0,none⟩) 1 1,1,(#[.int .u64 (key:Int)]:Array Value).toList⟩,none,none]→WW 11 #[true,true,true,true,true,true,true,true,true,true,false,false,true,true,true,true,false,true,false,false,false,false,false,false,false,false] ⟨eX fb n M c d key val A B (.slice (some ⟨aZ,0,none⟩) 0 0) dO (.slice (some ⟨g47,0,none⟩) 1 1) undef undef undef undef undef,[]⟩ v:=by
  intro aZ dO g47 v hr;refine inT bq ?_;unfold eX;refine eU (is:=[10,11,18]) (by kernel_rfl) (by simp) ⟨⟨⟨some 48,_,_,_,_,_⟩,rfl,fun Kn hK=> ?_⟩,⟨⟨some 49,_,_,_,_,_⟩,rfl,fun Kn hK=> ?_⟩,⟨⟨some 56,_,_,_,_,_⟩,rfl,fun Kn hK=> ?_⟩,trivial⟩
  ·refine dN (by rfl) (by rfl) iy (hr.own 0 _ rfl) (by rfl) (by rfl) (hr.reads 1 rfl rfl) (by rfl) (by first|omega|(simp;omega)) (Nat.le_trans hr.base hr.below.size) ?_;intro v4 w4 fO hg4;have hn:=hr.grow 0 rfl hg4 fO;replace hn:=hn.drop 1;refine hK.out _ _ (fun _=>hC _ hn.below) ?_
   try simp only[pt]
   exact outT bq (UQ aZ dO g47 _ _ hn)
  ·have hn:=hr.new 2 #[] 0 rfl (by decide);go_simp;refine hK.out _ _ (fun _=>hC _ hn.below) ?_
   try simp only[pt]
   exact outT bq (Ci aZ dO g47 _ _ hn)
  ·have hn:=hr.new 3 #[.int .u64 (val:Int)] 1 rfl (by decide);go_simp;refine hK.out _ _ (fun _=>hC _ hn.below) ?_
   try simp only[pt]
   exact outT bq (Cj aZ dO g47 _ _ hn)
 have PZ:∀(aZ:Nat) (dO:Value) (bV:Nat) (v:World),bB w1.heap.size 35 1 w1 v [some ⟨dO,(0+n),((#[]:Array Value).toList++l.map kC)⟩,none,some ⟨.slice (some ⟨bV,0,none⟩) 0 0,0,(#[]:Array Value).toList⟩,none]→WW 11 #[true,true,true,true,true,true,true,true,true,false,false,true,true,true,true,true,false,true,false,false,false,false,false,false,false,false] ⟨eX fb n M c d key val A B (.slice (some ⟨aZ,0,none⟩) 0 0) dO undef undef (.slice (some ⟨bV,0,none⟩) 0 0) undef undef undef,[]⟩ v:=by
  intro aZ dO bV v hr;refine inT bq ?_;unfold eX;refine eU (is:=[9,18]) (by kernel_rfl) (by simp) ⟨⟨⟨some 47,_,_,_,_,_⟩,rfl,fun Kn hK=> ?_⟩,⟨⟨some 56,_,_,_,_,_⟩,rfl,fun Kn hK=> ?_⟩,trivial⟩
  ·have hn:=hr.new 1 #[.int .u64 (key:Int)] 1 rfl (by decide);go_simp;refine hK.out _ _ (fun _=>hC _ hn.below) ?_
   try simp only[pt]
   exact outT bq (Ci aZ dO _ bV _ hn)
  ·have hn:=hr.new 3 #[.int .u64 (val:Int)] 1 rfl (by decide);go_simp;refine hK.out _ _ (fun _=>hC _ hn.below) ?_
   try simp only[pt]
   exact outT bq (zT aZ dO bV _ _ hn)
 have P5:∀(aZ:Nat) (dO:Value) (dh:Nat) (v:World),bB w1.heap.size 35 1 w1 v [some ⟨dO,(0+n),((#[]:Array Value).toList++l.map kC)⟩,none,none,some ⟨.slice (some ⟨dh,0,none⟩) 1 1,1,(#[.int .u64 (val:Int)]:Array Value).toList⟩]→WW 11 #[true,true,true,true,true,true,true,true,true,false,false,false,true,true,true,true,false,true,true,false,false,false,false,false,false,false] ⟨eX fb n M c d key val A B (.slice (some ⟨aZ,0,none⟩) 0 0) dO undef undef undef undef (.slice (some ⟨dh,0,none⟩) 1 1) undef,[]⟩ v:=by
  intro aZ dO dh v hr;refine inT bq ?_;unfold eX;refine eU (is:=[9,11]) (by kernel_rfl) (by simp) ⟨⟨⟨some 47,_,_,_,_,_⟩,rfl,fun Kn hK=> ?_⟩,⟨⟨some 49,_,_,_,_,_⟩,rfl,fun Kn hK=> ?_⟩,trivial⟩
  ·have hn:=hr.new 1 #[.int .u64 (key:Int)] 1 rfl (by decide);go_simp;refine hK.out _ _ (fun _=>hC _ hn.below) ?_
   try simp only[pt]
   exact outT bq (Cj aZ dO _ dh _ hn)
  ·have hn:=hr.new 2 #[] 0 rfl (by decide);go_simp;refine hK.out _ _ (fun _=>hC _ hn.below) ?_
   try simp only[pt]
   exact outT bq (zT aZ dO _ dh _ hn)
 have GY:∀(aZ:Nat) (g47:Nat) (bV:Nat) (v:World),bB w1.heap.size 35 1 w1 v [some ⟨.slice (some ⟨aZ,0,none⟩) 0 0,0,(#[]:Array Value).toList⟩,some ⟨.slice (some ⟨g47,0,none⟩) 1 1,1,(#[.int .u64 (key:Int)]:Array Value).toList⟩,some ⟨.slice (some ⟨bV,0,none⟩) 0 0,0,(#[]:Array Value).toList⟩,none]→WW 11 #[true,true,true,true,true,true,true,false,true,true,false,true,true,true,true,true,false,true,false,false,false,false,false,false,false,false] ⟨eX fb n M c d key val A B (.slice (some ⟨aZ,0,none⟩) 0 0) undef (.slice (some ⟨g47,0,none⟩) 1 1) undef (.slice (some ⟨bV,0,none⟩) 0 0) undef undef undef,[]⟩ v:=by
  intro aZ g47 bV v hr;refine inT bq ?_;unfold eX;refine eU (is:=[7,18]) (by kernel_rfl) (by simp) ⟨⟨⟨some 45,_,_,_,_,_⟩,rfl,fun Kn hK=> ?_⟩,⟨⟨some 56,_,_,_,_,_⟩,rfl,fun Kn hK=> ?_⟩,trivial⟩
  ·refine dN (by rfl) (by rfl) iy (hr.own 0 _ rfl) (by rfl) (by rfl) ((HK.out.below hr.below).more (Nat.le_trans hr.base hr.below.size)) (vS l) (by first|omega|(simp;omega)) (Nat.le_trans hr.base hr.below.size) ?_;intro v4 w4 fO hg4;have hn:=hr.grow 0 rfl hg4 fO;refine hK.out _ _ (fun _=>hC _ hn.below) ?_
   try simp only[pt]
   exact outT bq (Ci aZ _ g47 bV _ hn)
  ·have hn:=hr.new 3 #[.int .u64 (val:Int)] 1 rfl (by decide);go_simp;refine hK.out _ _ (fun _=>hC _ hn.below) ?_
   try simp only[pt]
   exact outT bq (uW aZ g47 bV _ _ hn)
 have GZ:∀(aZ:Nat) (g47:Nat) (dh:Nat) (v:World),bB w1.heap.size 35 1 w1 v [some ⟨.slice (some ⟨aZ,0,none⟩) 0 0,0,(#[]:Array Value).toList⟩,some ⟨.slice (some ⟨g47,0,none⟩) 1 1,1,(#[.int .u64 (key:Int)]:Array Value).toList⟩,none,some ⟨.slice (some ⟨dh,0,none⟩) 1 1,1,(#[.int .u64 (val:Int)]:Array Value).toList⟩]→WW 11 #[true,true,true,true,true,true,true,false,true,true,false,false,true,true,true,true,false,true,true,false,false,false,false,false,false,false] ⟨eX fb n M c d key val A B (.slice (some ⟨aZ,0,none⟩) 0 0) undef (.slice (some ⟨g47,0,none⟩) 1 1) undef undef undef (.slice (some ⟨dh,0,none⟩) 1 1) undef,[]⟩ v:=by
  intro aZ g47 dh v hr;refine inT bq ?_;unfold eX;refine eU (is:=[7,11]) (by kernel_rfl) (by simp) ⟨⟨⟨some 45,_,_,_,_,_⟩,rfl,fun Kn hK=> ?_⟩,⟨⟨some 49,_,_,_,_,_⟩,rfl,fun Kn hK=> ?_⟩,trivial⟩
  ·refine dN (by rfl) (by rfl) iy (hr.own 0 _ rfl) (by rfl) (by rfl) ((HK.out.below hr.below).more (Nat.le_trans hr.base hr.below.size)) (vS l) (by first|omega|(simp;omega)) (Nat.le_trans hr.base hr.below.size) ?_;intro v4 w4 fO hg4;have hn:=hr.grow 0 rfl hg4 fO;refine hK.out _ _ (fun _=>hC _ hn.below) ?_
   try simp only[pt]
   exact outT bq (Cj aZ _ g47 dh _ hn)
  ·have hn:=hr.new 2 #[] 0 rfl (by decide);go_simp;refine hK.out _ _ (fun _=>hC _ hn.below) ?_
   try simp only[pt]
   exact outT bq (uW aZ g47 _ dh _ hn)
 have Ev:∀(aZ:Nat) (bV:Nat) (dh:Nat) (v:World),bB w1.heap.size 35 1 w1 v [some ⟨.slice (some ⟨aZ,0,none⟩) 0 0,0,(#[]:Array Value).toList⟩,none,some ⟨.slice (some ⟨bV,0,none⟩) 0 0,0,(#[]:Array Value).toList⟩,some ⟨.slice (some ⟨dh,0,none⟩) 1 1,1,(#[.int .u64 (val:Int)]:Array Value).toList⟩]→WW 11 #[true,true,true,true,true,true,true,false,true,false,false,true,true,true,true,true,false,true,true,false,false,false,false,false,false,false] ⟨eX fb n M c d key val A B (.slice (some ⟨aZ,0,none⟩) 0 0) undef undef undef (.slice (some ⟨bV,0,none⟩) 0 0) undef (.slice (some ⟨dh,0,none⟩) 1 1) undef,[]⟩ v:=by
  intro aZ bV dh v hr;refine inT bq ?_;unfold eX;refine eU (is:=[7,9]) (by kernel_rfl) (by simp) ⟨⟨⟨some 45,_,_,_,_,_⟩,rfl,fun Kn hK=> ?_⟩,⟨⟨some 47,_,_,_,_,_⟩,rfl,fun Kn hK=> ?_⟩,trivial⟩
  ·refine dN (by rfl) (by rfl) iy (hr.own 0 _ rfl) (by rfl) (by rfl) ((HK.out.below hr.below).more (Nat.le_trans hr.base hr.below.size)) (vS l) (by first|omega|(simp;omega)) (Nat.le_trans hr.base hr.below.size) ?_;intro v4 w4 fO hg4;have hn:=hr.grow 0 rfl hg4 fO;refine hK.out _ _ (fun _=>hC _ hn.below) ?_
   try simp only[pt]
   exact outT bq (zT aZ _ bV dh _ hn)
  ·have hn:=hr.new 1 #[.int .u64 (key:Int)] 1 rfl (by decide);go_simp;refine hK.out _ _ (fun _=>hC _ hn.below) ?_
   try simp only[pt]
   exact outT bq (uW aZ _ bV dh _ hn)
 have Ew:∀(g47:Nat) (bV:Nat) (dh:Nat) (v:World),bB w1.heap.size 35 1 w1 v [none,some ⟨.slice (some ⟨g47,0,none⟩) 1 1,1,(#[.int .u64 (key:Int)]:Array Value).toList⟩,some ⟨.slice (some ⟨bV,0,none⟩) 0 0,0,(#[]:Array Value).toList⟩,some ⟨.slice (some ⟨dh,0,none⟩) 1 1,1,(#[.int .u64 (val:Int)]:Array Value).toList⟩]→WW 11 #[true,true,false,true,true,true,true,false,true,true,false,true,true,true,true,true,false,true,true,false,false,false,false,false,false,false] ⟨eX fb n M c d key val A B undef undef (.slice (some ⟨g47,0,none⟩) 1 1) undef (.slice (some ⟨bV,0,none⟩) 0 0) undef (.slice (some ⟨dh,0,none⟩) 1 1) undef,[]⟩ v:=by
  intro g47 bV dh v hr;refine inT bq ?_;unfold eX;refine eU (is:=[2]) (by kernel_rfl) (by simp) ⟨⟨⟨some 40,_,_,_,_,_⟩,rfl,fun Kn hK=> ?_⟩,trivial⟩
  ·have hn:=hr.new 0 #[] 0 rfl (by decide);go_simp;refine hK.out _ _ (fun _=>hC _ hn.below) ?_
   try simp only[pt]
   exact outT bq (uW _ g47 bV dh _ hn)
 have ad4:∀(aZ:Nat) (dO:Value) (v:World),bB w1.heap.size 35 1 w1 v [some ⟨dO,(0+n),((#[]:Array Value).toList++l.map kC)⟩,none,none,none]→WW 12 #[true,true,true,true,true,true,true,true,true,false,false,false,true,true,true,true,false,true,false,false,false,false,false,false,false,false] ⟨eX fb n M c d key val A B (.slice (some ⟨aZ,0,none⟩) 0 0) dO undef undef undef undef undef undef,[]⟩ v:=by
  intro aZ dO v hr;refine inT bq ?_;unfold eX;refine eU (is:=[9,11,18]) (by kernel_rfl) (by simp) ⟨⟨⟨some 47,_,_,_,_,_⟩,rfl,fun Kn hK=> ?_⟩,⟨⟨some 49,_,_,_,_,_⟩,rfl,fun Kn hK=> ?_⟩,⟨⟨some 56,_,_,_,_,_⟩,rfl,fun Kn hK=> ?_⟩,trivial⟩
  ·have hn:=hr.new 1 #[.int .u64 (key:Int)] 1 rfl (by decide);go_simp;refine hK.out _ _ (fun _=>hC _ hn.below) ?_
   try simp only[pt]
   exact outT bq (Sq aZ dO _ _ hn)
  ·have hn:=hr.new 2 #[] 0 rfl (by decide);go_simp;refine hK.out _ _ (fun _=>hC _ hn.below) ?_
   try simp only[pt]
   exact outT bq (PZ aZ dO _ _ hn)
  ·have hn:=hr.new 3 #[.int .u64 (val:Int)] 1 rfl (by decide);go_simp;refine hK.out _ _ (fun _=>hC _ hn.below) ?_
   try simp only[pt]
   exact outT bq (P5 aZ dO _ _ hn)
 have aaU:∀(aZ:Nat) (g47:Nat) (v:World),bB w1.heap.size 35 1 w1 v [some ⟨.slice (some ⟨aZ,0,none⟩) 0 0,0,(#[]:Array Value).toList⟩,some ⟨.slice (some ⟨g47,0,none⟩) 1 1,1,(#[.int .u64 (key:Int)]:Array Value).toList⟩,none,none]→WW 12 #[true,true,true,true,true,true,true,false,true,true,false,false,true,true,true,true,false,true,false,false,false,false,false,false,false,false] ⟨eX fb n M c d key val A B (.slice (some ⟨aZ,0,none⟩) 0 0) undef (.slice (some ⟨g47,0,none⟩) 1 1) undef undef undef undef undef,[]⟩ v:=by
  intro aZ g47 v hr;refine inT bq ?_;unfold eX;refine eU (is:=[7,11,18]) (by kernel_rfl) (by simp) ⟨⟨⟨some 45,_,_,_,_,_⟩,rfl,fun Kn hK=> ?_⟩,⟨⟨some 49,_,_,_,_,_⟩,rfl,fun Kn hK=> ?_⟩,⟨⟨some 56,_,_,_,_,_⟩,rfl,fun Kn hK=> ?_⟩,trivial⟩
  ·refine dN (by rfl) (by rfl) iy (hr.own 0 _ rfl) (by rfl) (by rfl) ((HK.out.below hr.below).more (Nat.le_trans hr.base hr.below.size)) (vS l) (by first|omega|(simp;omega)) (Nat.le_trans hr.base hr.below.size) ?_;intro v4 w4 fO hg4;have hn:=hr.grow 0 rfl hg4 fO;refine hK.out _ _ (fun _=>hC _ hn.below) ?_
   try simp only[pt]
   exact outT bq (Sq aZ _ g47 _ hn)
  ·have hn:=hr.new 2 #[] 0 rfl (by decide);go_simp;refine hK.out _ _ (fun _=>hC _ hn.below) ?_
   try simp only[pt]
   exact outT bq (GY aZ g47 _ _ hn)
  ·have hn:=hr.new 3 #[.int .u64 (val:Int)] 1 rfl (by decide);go_simp;refine hK.out _ _ (fun _=>hC _ hn.below) ?_
   try simp only[pt]
   exact outT bq (GZ aZ g47 _ _ hn)
 have XI:∀(aZ:Nat) (bV:Nat) (v:World),bB w1.heap.size 35 1 w1 v [some ⟨.slice (some ⟨aZ,0,none⟩) 0 0,0,(#[]:Array Value).toList⟩,none,some ⟨.slice (some ⟨bV,0,none⟩) 0 0,0,(#[]:Array Value).toList⟩,none]→WW 12 #[true,true,true,true,true,true,true,false,true,false,false,true,true,true,true,true,false,true,false,false,false,false,false,false,false,false] ⟨eX fb n M c d key val A B (.slice (some ⟨aZ,0,none⟩) 0 0) undef undef undef (.slice (some ⟨bV,0,none⟩) 0 0) undef undef undef,[]⟩ v:=by
  intro aZ bV v hr;refine inT bq ?_;unfold eX;refine eU (is:=[7,9,18]) (by kernel_rfl) (by simp) ⟨⟨⟨some 45,_,_,_,_,_⟩,rfl,fun Kn hK=> ?_⟩,⟨⟨some 47,_,_,_,_,_⟩,rfl,fun Kn hK=> ?_⟩,⟨⟨some 56,_,_,_,_,_⟩,rfl,fun Kn hK=> ?_⟩,trivial⟩
  ·refine dN (by rfl) (by rfl) iy (hr.own 0 _ rfl) (by rfl) (by rfl) ((HK.out.below hr.below).more (Nat.le_trans hr.base hr.below.size)) (vS l) (by first|omega|(simp;omega)) (Nat.le_trans hr.base hr.below.size) ?_;intro v4 w4 fO hg4;have hn:=hr.grow 0 rfl hg4 fO;refine hK.out _ _ (fun _=>hC _ hn.below) ?_
   try simp only[pt]
   exact outT bq (PZ aZ _ bV _ hn)
  ·have hn:=hr.new 1 #[.int .u64 (key:Int)] 1 rfl (by decide);go_simp;refine hK.out _ _ (fun _=>hC _ hn.below) ?_
   try simp only[pt]
   exact outT bq (GY aZ _ bV _ hn)
  ·have hn:=hr.new 3 #[.int .u64 (val:Int)] 1 rfl (by decide);go_simp;refine hK.out _ _ (fun _=>hC _ hn.below) ?_
   try simp only[pt]
   exact outT bq (Ev aZ bV _ _ hn)
 have XJ:∀(aZ:Nat) (dh:Nat) (v:World),bB w1.heap.size 35 1 w1 v [some ⟨.slice (some ⟨aZ,0,none⟩) 0 0,0,(#[]:Array Value).toList⟩,none,none,some ⟨.slice (some ⟨dh,0,none⟩) 1 1,1,(#[.int .u64 (val:Int)]:Array Value).toList⟩]→WW 12 #[true,true,true,true,true,true,true,false,true,false,false,false,true,true,true,true,false,true,true,false,false,false,false,false,false,false] ⟨eX fb n M c d key val A B (.slice (some ⟨aZ,0,none⟩) 0 0) undef undef undef undef undef (.slice (some ⟨dh,0,none⟩) 1 1) undef,[]⟩ v:=by
  intro aZ dh v hr;refine inT bq ?_;unfold eX;refine eU (is:=[7,9,11]) (by kernel_rfl) (by simp) ⟨⟨⟨some 45,_,_,_,_,_⟩,rfl,fun Kn hK=> ?_⟩,⟨⟨some 47,_,_,_,_,_⟩,rfl,fun Kn hK=> ?_⟩,⟨⟨some 49,_,_,_,_,_⟩,rfl,fun Kn hK=> ?_⟩,trivial⟩
  ·refine dN (by rfl) (by rfl) iy (hr.own 0 _ rfl) (by rfl) (by rfl) ((HK.out.below hr.below).more (Nat.le_trans hr.base hr.below.size)) (vS l) (by first|omega|(simp;omega)) (Nat.le_trans hr.base hr.below.size) ?_;intro v4 w4 fO hg4;have hn:=hr.grow 0 rfl hg4 fO;refine hK.out _ _ (fun _=>hC _ hn.below) ?_
   try simp only[pt]
   exact outT bq (P5 aZ _ dh _ hn)
  ·have hn:=hr.new 1 #[.int .u64 (key:Int)] 1 rfl (by decide);go_simp;refine hK.out _ _ (fun _=>hC _ hn.below) ?_
   try simp only[pt]
   exact outT bq (GZ aZ _ dh _ hn)
  ·have hn:=hr.new 2 #[] 0 rfl (by decide);go_simp;refine hK.out _ _ (fun _=>hC _ hn.below) ?_
   try simp only[pt]
   exact outT bq (Ev aZ _ dh _ hn)
 have XK:∀(g47:Nat) (bV:Nat) (v:World),bB w1.heap.size 35 1 w1 v [none,some ⟨.slice (some ⟨g47,0,none⟩) 1 1,1,(#[.int .u64 (key:Int)]:Array Value).toList⟩,some ⟨.slice (some ⟨bV,0,none⟩) 0 0,0,(#[]:Array Value).toList⟩,none]→WW 12 #[true,true,false,true,true,true,true,false,true,true,false,true,true,true,true,true,false,true,false,false,false,false,false,false,false,false] ⟨eX fb n M c d key val A B undef undef (.slice (some ⟨g47,0,none⟩) 1 1) undef (.slice (some ⟨bV,0,none⟩) 0 0) undef undef undef,[]⟩ v:=by
  intro g47 bV v hr;refine inT bq ?_;unfold eX;refine eU (is:=[2,18]) (by kernel_rfl) (by simp) ⟨⟨⟨some 40,_,_,_,_,_⟩,rfl,fun Kn hK=> ?_⟩,⟨⟨some 56,_,_,_,_,_⟩,rfl,fun Kn hK=> ?_⟩,trivial⟩
  ·have hn:=hr.new 0 #[] 0 rfl (by decide);go_simp;refine hK.out _ _ (fun _=>hC _ hn.below) ?_
   try simp only[pt]
   exact outT bq (GY _ g47 bV _ hn)
  ·have hn:=hr.new 3 #[.int .u64 (val:Int)] 1 rfl (by decide);go_simp;refine hK.out _ _ (fun _=>hC _ hn.below) ?_
   try simp only[pt]
   exact outT bq (Ew g47 bV _ _ hn)
 have XL:∀(g47:Nat) (dh:Nat) (v:World),bB w1.heap.size 35 1 w1 v [none,some ⟨.slice (some ⟨g47,0,none⟩) 1 1,1,(#[.int .u64 (key:Int)]:Array Value).toList⟩,none,some ⟨.slice (some ⟨dh,0,none⟩) 1 1,1,(#[.int .u64 (val:Int)]:Array Value).toList⟩]→WW 12 #[true,true,false,true,true,true,true,false,true,true,false,false,true,true,true,true,false,true,true,false,false,false,false,false,false,false] ⟨eX fb n M c d key val A B undef undef (.slice (some ⟨g47,0,none⟩) 1 1) undef undef undef (.slice (some ⟨dh,0,none⟩) 1 1) undef,[]⟩ v:=by
  intro g47 dh v hr;refine inT bq ?_;unfold eX;refine eU (is:=[2,11]) (by kernel_rfl) (by simp) ⟨⟨⟨some 40,_,_,_,_,_⟩,rfl,fun Kn hK=> ?_⟩,⟨⟨some 49,_,_,_,_,_⟩,rfl,fun Kn hK=> ?_⟩,trivial⟩
  ·have hn:=hr.new 0 #[] 0 rfl (by decide);go_simp;refine hK.out _ _ (fun _=>hC _ hn.below) ?_
   try simp only[pt]
   exact outT bq (GZ _ g47 dh _ hn)
  ·have hn:=hr.new 2 #[] 0 rfl (by decide);go_simp;refine hK.out _ _ (fun _=>hC _ hn.below) ?_
   try simp only[pt]
   exact outT bq (Ew g47 _ dh _ hn)
 have Sr:∀(bV:Nat) (dh:Nat) (v:World),bB w1.heap.size 35 1 w1 v [none,none,some ⟨.slice (some ⟨bV,0,none⟩) 0 0,0,(#[]:Array Value).toList⟩,some ⟨.slice (some ⟨dh,0,none⟩) 1 1,1,(#[.int .u64 (val:Int)]:Array Value).toList⟩]→WW 12 #[true,true,false,true,true,true,true,false,true,false,false,true,true,true,true,true,false,true,true,false,false,false,false,false,false,false] ⟨eX fb n M c d key val A B undef undef undef undef (.slice (some ⟨bV,0,none⟩) 0 0) undef (.slice (some ⟨dh,0,none⟩) 1 1) undef,[]⟩ v:=by
  intro bV dh v hr;refine inT bq ?_;unfold eX;refine eU (is:=[2,9]) (by kernel_rfl) (by simp) ⟨⟨⟨some 40,_,_,_,_,_⟩,rfl,fun Kn hK=> ?_⟩,⟨⟨some 47,_,_,_,_,_⟩,rfl,fun Kn hK=> ?_⟩,trivial⟩
  ·have hn:=hr.new 0 #[] 0 rfl (by decide);go_simp;refine hK.out _ _ (fun _=>hC _ hn.below) ?_
   try simp only[pt]
   exact outT bq (Ev _ bV dh _ hn)
  ·have hn:=hr.new 1 #[.int .u64 (key:Int)] 1 rfl (by decide);go_simp;refine hK.out _ _ (fun _=>hC _ hn.below) ?_
   try simp only[pt]
   exact outT bq (Ew _ bV dh _ hn)
 have S_2:∀(aZ:Nat) (v:World),bB w1.heap.size 35 1 w1 v [some ⟨.slice (some ⟨aZ,0,none⟩) 0 0,0,(#[]:Array Value).toList⟩,none,none,none]→WW 13 #[true,true,true,true,true,true,true,false,true,false,false,false,true,true,true,true,false,true,false,false,false,false,false,false,false,false] ⟨eX fb n M c d key val A B (.slice (some ⟨aZ,0,none⟩) 0 0) undef undef undef undef undef undef undef,[]⟩ v:=by
  intro aZ v hr;refine inT bq ?_;unfold eX;refine eU (is:=[7,9,11,18]) (by kernel_rfl) (by simp) ⟨⟨⟨some 45,_,_,_,_,_⟩,rfl,fun Kn hK=> ?_⟩,⟨⟨some 47,_,_,_,_,_⟩,rfl,fun Kn hK=> ?_⟩,⟨⟨some 49,_,_,_,_,_⟩,rfl,fun Kn hK=> ?_⟩,⟨⟨some 56,_,_,_,_,_⟩,rfl,fun Kn hK=> ?_⟩,trivial⟩
  ·refine dN (by rfl) (by rfl) iy (hr.own 0 _ rfl) (by rfl) (by rfl) ((HK.out.below hr.below).more (Nat.le_trans hr.base hr.below.size)) (vS l) (by first|omega|(simp;omega)) (Nat.le_trans hr.base hr.below.size) ?_;intro v4 w4 fO hg4;have hn:=hr.grow 0 rfl hg4 fO;refine hK.out _ _ (fun _=>hC _ hn.below) ?_
   try simp only[pt]
   exact outT bq (ad4 aZ _ _ hn)
  ·have hn:=hr.new 1 #[.int .u64 (key:Int)] 1 rfl (by decide);go_simp;refine hK.out _ _ (fun _=>hC _ hn.below) ?_
   try simp only[pt]
   exact outT bq (aaU aZ _ _ hn)
  ·have hn:=hr.new 2 #[] 0 rfl (by decide);go_simp;refine hK.out _ _ (fun _=>hC _ hn.below) ?_
   try simp only[pt]
   exact outT bq (XI aZ _ _ hn)
  ·have hn:=hr.new 3 #[.int .u64 (val:Int)] 1 rfl (by decide);go_simp;refine hK.out _ _ (fun _=>hC _ hn.below) ?_
   try simp only[pt]
   exact outT bq (XJ aZ _ _ hn)
 have S_9:∀(g47:Nat) (v:World),bB w1.heap.size 35 1 w1 v [none,some ⟨.slice (some ⟨g47,0,none⟩) 1 1,1,(#[.int .u64 (key:Int)]:Array Value).toList⟩,none,none]→WW 13 #[true,true,false,true,true,true,true,false,true,true,false,false,true,true,true,true,false,true,false,false,false,false,false,false,false,false] ⟨eX fb n M c d key val A B undef undef (.slice (some ⟨g47,0,none⟩) 1 1) undef undef undef undef undef,[]⟩ v:=by
  intro g47 v hr;refine inT bq ?_;unfold eX;refine eU (is:=[2,11,18]) (by kernel_rfl) (by simp) ⟨⟨⟨some 40,_,_,_,_,_⟩,rfl,fun Kn hK=> ?_⟩,⟨⟨some 49,_,_,_,_,_⟩,rfl,fun Kn hK=> ?_⟩,⟨⟨some 56,_,_,_,_,_⟩,rfl,fun Kn hK=> ?_⟩,trivial⟩
  ·have hn:=hr.new 0 #[] 0 rfl (by decide);go_simp;refine hK.out _ _ (fun _=>hC _ hn.below) ?_
   try simp only[pt]
   exact outT bq (aaU _ g47 _ hn)
  ·have hn:=hr.new 2 #[] 0 rfl (by decide);go_simp;refine hK.out _ _ (fun _=>hC _ hn.below) ?_
   try simp only[pt]
   exact outT bq (XK g47 _ _ hn)
  ·have hn:=hr.new 3 #[.int .u64 (val:Int)] 1 rfl (by decide);go_simp;refine hK.out _ _ (fun _=>hC _ hn.below) ?_
   try simp only[pt]
   exact outT bq (XL g47 _ _ hn)
 have aeX:∀(bV:Nat) (v:World),bB w1.heap.size 35 1 w1 v [none,none,some ⟨.slice (some ⟨bV,0,none⟩) 0 0,0,(#[]:Array Value).toList⟩,none]→WW 13 #[true,true,false,true,true,true,true,false,true,false,false,true,true,true,true,true,false,true,false,false,false,false,false,false,false,false] ⟨eX fb n M c d key val A B undef undef undef undef (.slice (some ⟨bV,0,none⟩) 0 0) undef undef undef,[]⟩ v:=by
  intro bV v hr;refine inT bq ?_;unfold eX;refine eU (is:=[2,9,18]) (by kernel_rfl) (by simp) ⟨⟨⟨some 40,_,_,_,_,_⟩,rfl,fun Kn hK=> ?_⟩,⟨⟨some 47,_,_,_,_,_⟩,rfl,fun Kn hK=> ?_⟩,⟨⟨some 56,_,_,_,_,_⟩,rfl,fun Kn hK=> ?_⟩,trivial⟩
  ·have hn:=hr.new 0 #[] 0 rfl (by decide);go_simp;refine hK.out _ _ (fun _=>hC _ hn.below) ?_
   try simp only[pt]
   exact outT bq (XI _ bV _ hn)
  ·have hn:=hr.new 1 #[.int .u64 (key:Int)] 1 rfl (by decide);go_simp;refine hK.out _ _ (fun _=>hC _ hn.below) ?_
   try simp only[pt]
   exact outT bq (XK _ bV _ hn)
  ·have hn:=hr.new 3 #[.int .u64 (val:Int)] 1 rfl (by decide);go_simp;refine hK.out _ _ (fun _=>hC _ hn.below) ?_
   try simp only[pt]
   exact outT bq (Sr bV _ _ hn)
 have aeY:∀(dh:Nat) (v:World),bB w1.heap.size 35 1 w1 v [none,none,none,some ⟨.slice (some ⟨dh,0,none⟩) 1 1,1,(#[.int .u64 (val:Int)]:Array Value).toList⟩]→WW 13 #[true,true,false,true,true,true,true,false,true,false,false,false,true,true,true,true,false,true,true,false,false,false,false,false,false,false] ⟨eX fb n M c d key val A B undef undef undef undef undef undef (.slice (some ⟨dh,0,none⟩) 1 1) undef,[]⟩ v:=by
  intro dh v hr;refine inT bq ?_;unfold eX;refine eU (is:=[2,9,11]) (by kernel_rfl) (by simp) ⟨⟨⟨some 40,_,_,_,_,_⟩,rfl,fun Kn hK=> ?_⟩,⟨⟨some 47,_,_,_,_,_⟩,rfl,fun Kn hK=> ?_⟩,⟨⟨some 49,_,_,_,_,_⟩,rfl,fun Kn hK=> ?_⟩,trivial⟩
  ·have hn:=hr.new 0 #[] 0 rfl (by decide);go_simp;refine hK.out _ _ (fun _=>hC _ hn.below) ?_
   try simp only[pt]
   exact outT bq (XJ _ dh _ hn)
  ·have hn:=hr.new 1 #[.int .u64 (key:Int)] 1 rfl (by decide);go_simp;refine hK.out _ _ (fun _=>hC _ hn.below) ?_
   try simp only[pt]
   exact outT bq (XL _ dh _ hn)
  ·have hn:=hr.new 2 #[] 0 rfl (by decide);go_simp;refine hK.out _ _ (fun _=>hC _ hn.below) ?_
   try simp only[pt]
   exact outT bq (Sr _ dh _ hn)
 have XM:∀(v:World),bB w1.heap.size 35 1 w1 v [none,none,none,none]→WW 14 #[true,true,false,true,true,true,true,false,true,false,false,false,true,true,true,true,false,true,false,false,false,false,false,false,false,false] ⟨eX fb n M c d key val A B undef undef undef undef undef undef undef undef,[]⟩ v:=by
  intro v hr;refine inT bq ?_;unfold eX;refine eU (is:=[2,9,11,18]) (by kernel_rfl) (by simp) ⟨⟨⟨some 40,_,_,_,_,_⟩,rfl,fun Kn hK=> ?_⟩,⟨⟨some 47,_,_,_,_,_⟩,rfl,fun Kn hK=> ?_⟩,⟨⟨some 49,_,_,_,_,_⟩,rfl,fun Kn hK=> ?_⟩,⟨⟨some 56,_,_,_,_,_⟩,rfl,fun Kn hK=> ?_⟩,trivial⟩
  ·have hn:=hr.new 0 #[] 0 rfl (by decide);go_simp;refine hK.out _ _ (fun _=>hC _ hn.below) ?_
   try simp only[pt]
   exact outT bq (S_2 _ _ hn)
  ·have hn:=hr.new 1 #[.int .u64 (key:Int)] 1 rfl (by decide);go_simp;refine hK.out _ _ (fun _=>hC _ hn.below) ?_
   try simp only[pt]
   exact outT bq (S_9 _ _ hn)
  ·have hn:=hr.new 2 #[] 0 rfl (by decide);go_simp;refine hK.out _ _ (fun _=>hC _ hn.below) ?_
   try simp only[pt]
   exact outT bq (aeX _ _ hn)
  ·have hn:=hr.new 3 #[.int .u64 (val:Int)] 1 rfl (by decide);go_simp;refine hK.out _ _ (fun _=>hC _ hn.below) ?_
   try simp only[pt]
   exact outT bq (aeY _ _ hn)
 exact adA (XM _ hr0) (by kernel_rfl) (by kernel_rfl) (by rfl)
end Go.Proofs.YtbfpfgfgfjhpfaaGreatDoor
