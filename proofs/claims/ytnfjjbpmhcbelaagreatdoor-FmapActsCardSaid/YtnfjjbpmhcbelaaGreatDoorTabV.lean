/- amblerref28: Delete; Put and Delete in one. No statement of the claim. -/
import Derived.Test.YtnfjjbpmhcbelaaGreatDoorFqC
import Derived.Test.YtnfjjbpmhcbelaaGreatDoorAppAny
import Derived.Test.YtnfjjbpmhcbelaaGreatDoorGaugeA
import Derived.Test.YtnfjjbpmhcbelaaGreatDoorFqB
import Derived.Test.YtnfjjbpmhcbelaaGreatDoorSqM
import Derived.Test.YtnfjjbpmhcbelaaGreatDoorTabS
import Derived.Test.YtnfjjbpmhcbelaaGreatDoorTabT
namespace Go.Proofs.YtnfjjbpmhcbelaaGreatDoor
set_option maxRecDepth 100000
set_option maxHeartbeats 8000000
open Go.RowKit dI ru kM Go
section
variable {w : World} {M base c wb : Nat} {A : Option Addr} {l : PL} {F : List Nat}
theorem NG {t:TypeId}(w:World):cu w.heap.size t 1 w w.drew [none]:=⟨(Below.refl _ _).drew,Nat.le_refl _,fun i r h=>by rcases i with _|i<;>simp at h,fun i j r s _ h=>by rcases i with _|i<;>simp at h⟩
def Dj (wb n c d x key p p1 z:Nat)(A B X:Option Addr)(y16 y23 y31:Value):Array Value:= #[pQ wb,nU x,undef,undef,.bool false,nI p,.bool true,.tuple #[nI p,.bool true],pQ wb,nU x,nU key,.tuple #[nI p,.bool true],nI p,.bool true,.bool true,pQ wb,y16,pQ wb,pQ wb,pQ wb,.slice A n c,nI p,.slice A p c,y23,pQ wb,pQ wb,pQ wb,.slice A n c,nI p,nI p1,.slice X z (c-p1),y31,undef,undef,undef,undef,undef,undef,undef,undef,undef,undef,undef,undef,undef,undef,undef,undef,undef,undef,undef,undef,undef,undef]
def Dk (wb n c d x key p p1 z:Nat)(A B X Y:Option Addr)(x23 x31:Value)(g16:Nat)(y35 y42 y50:Value):Array Value:= #[pQ wb,nU x,undef,undef,.bool false,nI p,.bool true,.tuple #[nI p,.bool true],pQ wb,nU x,nU key,.tuple #[nI p,.bool true],nI p,.bool true,.bool true,pQ wb,.slice (some ⟨g16,0,none⟩) 0 0,pQ wb,pQ wb,pQ wb,.slice A n c,nI p,.slice A p c,x23,pQ wb,pQ wb,pQ wb,.slice A n c,nI p,nI p1,.slice X z (c-p1),x31,pQ wb,pQ wb,pQ wb,y35,pQ wb,pQ wb,.pointer (some ⟨wb,1,none⟩),.slice B n d,nI p,.slice B p d,y42,pQ wb,pQ wb,.pointer (some ⟨wb,1,none⟩),.slice B n d,nI p,nI p1,.slice Y z (d-p1),y50,undef,undef,undef]
theorem Jr {u:Value}(hB:aj w wb 37 #[.slice A l.length c,u,nI M])(hR:Reads w w.heap.size 1 A l.length (l.map kC))(h9:l.length≤1000)(ha:je l)(x:Nat)(hx:x<18446744073709551616)(hi:kL l (aA x)=false):
  Calls Tryz.prog 16 #[pQ wb,nU x] w fun e w'=>e= .returned (.bool false)∧Below w.heap.size w w':=by
 have HK:=qd (fun(W:World)=>mX x hx W);have HF:=qd (xI hB hR h9 ha (aA x));rw[hi]at HF;clear hB hR h9 ha hi;go_in;go_wp2_with fail;refine(HK.out _).mono ?_;rintro y wq ⟨rfl,rfl⟩;go_wp2_with fail;refine HF.out.mono ?_;rintro y w1 ⟨rfl,hb1⟩;have HX:=qd hb1;clear hb1 HF;go_wp2;go_ret;exact⟨rfl,HX.out⟩
theorem Js {d:Nat}{B:Option Addr}(hB:aj w wb 37 #[.slice A l.length c,.slice B l.length d,nI M])(hKr:w.ownsRow base 41 1 (.slice A l.length c) l.length (l.map kC))(hVr:w.ownsRow base 38 1 (.slice B l.length d) l.length (l.map fF))(h9:l.length≤1000)(ha:je l)(x:Nat)(hx:x<18446744073709551616)(hi:kL l (aA x)=true):
  Calls Tryz.prog 16 #[pQ wb,nU x] w fun e w'=>e= .returned (.bool true)∧∃A' c' B' d',aj w' wb 37 #[.slice A' (lN l (aA x)).length c',.slice B' (lN l (aA x)).length d',nI M]∧w'.ownsRow w.heap.size 41 1 (.slice A' (lN l (aA x)).length c') (lN l (aA x)).length ((lN l (aA x)).map kC)∧w'.ownsRow w.heap.size 38 1 (.slice B' (lN l (aA x)).length d') (lN l (aA x)).length ((lN l (aA x)).map fF)∧Mod [wb] w w':=by
 have HK:=qd (fun(W:World)=>mX x hx W);have HF:=qd (xI hB (Reads.fD hKr) h9 ha (aA x));rw[hi]at HF
 have Nv:lN l (aA x)=l.eraseIdx (gy l (aA x)):=by unfold lN;rw[hi];rfl
 rw[Nv];obtain⟨u,hv,_⟩:=(pG ha).1 hi;have hpl:=(List.getElem?_eq_some_iff.1 hv).1;obtain⟨key,hkey⟩:∃k,k=aA x:=⟨_,rfl⟩;rw[←hkey]at HF HK hpl⊢;obtain⟨p,hp⟩:∃p,p=gy l key:=⟨_,rfl⟩;rw[←hp]at HF hpl⊢;obtain⟨p1,hp1⟩:∃p1,p1=p+1:=⟨_,rfl⟩
 have hwp:IntKind.i64.wrap ((p:Int)+1)=(p1:Int):=by rw[IntKind.wrap_i64];omega
 have hlt:=hB.lt;have HB:=qd hB;have Vl:=qd hKr;have HVr:=qd hVr;obtain⟨n,hn⟩:∃n,n=l.length:=⟨_,rfl⟩
 have Ik:n≤1000:=by omega
 obtain⟨m,hm⟩:∃m,m=(l.eraseIdx p).length:=⟨_,rfl⟩
 have hmn:m+1=n:=by rw[hm,hn,List.length_eraseIdx,if_pos hpl];omega
 rw[←hn]at HB Vl HVr hpl;rw[←hm];have HP:=qd (show p≤n∧p1≤n by omega)
 have hp0:(0:Int)≤(p:Int):=by omega
 have her:l.eraseIdx p=l.take p++l.drop p1:=by rw[hp1,List.eraseIdx_eq_take_drop_succ]
 have wN:=qd her;clear hB hKr hVr hi hp hn h9 ha Nv hkey hm hv her;go_in;go_wp2_with fail;refine(HK.out _).mono ?_;rintro y wq ⟨rfl,rfl⟩;go_wp2_with fail;refine HF.out.mono ?_;rintro y w4 ⟨rfl,hb1⟩;have oP:=qd hb1;clear hb1 HF HK;go_upto_region 3 with fail;have wL:=own_below Vl.out oP.out (Nat.le_refl _);obtain⟨_,_,_,hs2,hr1⟩:=xD (t:=34) Tryz.underlying34 Gd wL (j:=p) HP.out.1;obtain⟨X,hs1,hr2,_,_⟩:=xD (t:=34) Tryz.underlying34 Gd wL (j:=p1) HP.out.2;obtain⟨z,hz⟩:∃z,z=n-p1:=⟨_,rfl⟩;rw[←hz]at hs1 hr2;have HZ:=qd hz
 have hzp:p+z=m:=by omega
 have hpz:p≤1000∧z≤1000∧m≤1000:=by omega
 have HT:=qd hr1;have HD:=qd hr2;have Gf:=qd (HB.out.below oP.out hlt);have Nw:=qd hlt;have YJ:wb<w4.heap.size:=Nat.lt_of_lt_of_le hlt oP.out.size;have c0:=Gf.out.cell 0;simp only[List.getElem?_toArray,List.getElem?_cons_zero]at c0;have HXk:=qd (show(((#[]:Array Value).toList++(l.map kC).take (p*1))++(l.map kC).drop (p1*1))=(l.eraseIdx p).map kC from by rw[wN.out];simp[List.map_take,List.map_drop]);have HXv:=qd (show(((#[]:Array Value).toList++(l.map fF).take (p*1))++(l.map fF).drop (p1*1))=(l.eraseIdx p).map fF from by rw[wN.out];simp[List.map_take,List.map_drop]);clear hr1 hr2 hz wL hpl hp1 hmn;refine rT (fun(w':World)=>w'.cell? ⟨wb,0,none⟩=some (.slice A n c)) [19] ?_;have hHeld:=c0;refine vW 0 rfl ?_;refine vW 2 rfl ?_;refine vW 3 rfl ?_;refine vW 4 rfl ?_;refine vT 5 rfl ?_;refine vW 6 rfl ?_;refine vW 7 rfl ?_;refine vW 9 rfl ?_;refine vW 10 rfl ?_;refine vW 11 rfl ?_;refine vT 12 rfl ?_;refine vW 13 rfl ?_;refine vW 14 rfl ?_;refine vW 15 rfl ?_;have hr0:cu w4.heap.size 41 1 w4 w4.drew [none]:=NG w4;have hC:∀v:World,Below w4.heap.size w4 v→(fun(w':World)=>w'.cell? ⟨wb,0,none⟩=some (.slice A n c)) v:=fun v hv=>(hv.cell YJ).trans c0;refine Mv fun WW fG=> ?_
 have Gg:∀(g16:Nat) (x23:Value) (x31:Value) (v:World),cu w4.heap.size 41 1 w4 v [some ⟨x31,((0+p)+z),(((#[]:Array Value).toList++(l.map kC).take (p*1))++(l.map kC).drop (p1*1))⟩]→WW 3 #[true,true,true,true,true,true,true,true,true,true,true,true,true,true,true,true,true,false,false,false] ⟨Dj wb n c d x key p p1 z A B X (.slice (some ⟨g16,0,none⟩) 0 0) x23 x31,[]⟩ v:=by
  intro g16 x23 x31 v hr;refine inT fG ?_;unfold Dj;have o0:=hr.own 0 _ rfl;have jE:=hr.below;simp only at o0;rw[show((0+p)+z)=m by omega,HXk.out]at o0;obtain⟨A',c',rfl⟩:=bA o0;have oQ:=Gf.out.below jE Gf.out.lt;have f0:=oQ.frozen 0;have e0:=oQ.cell 0;simp only[gl]at e0;have Vo:=nH o0 oP.out.size;have oN:=qd (aar (u:= .slice A' m c') oQ oP.out jE Vo Vo Nw.out);clear oQ o0 hr Vo;refine pK (i:=17) (o:=⟨some 32,_,_,_,_,_⟩) rfl (by kernel_rfl) (fun Kn hK=> ?_);go_simp;refine hK.out _ _ (fun _=>hC _ jE) ?_;clear hK Kn
  try simp only[pt]
  refine pK (i:=18) (o:=⟨some 33,_,_,_,_,_⟩) rfl (by kernel_rfl) (fun Kn hK=> ?_);go_simp;refine hK.out _ _ (fun _=>hC _ jE) ?_;clear hK Kn
  try simp only[pt]
  refine pK (i:=19) (o:=⟨none,_,_,_,_,_⟩) rfl (by kernel_rfl) (fun Kn hK=> ?_);go_simp;refine hK.out _ _ (fun h=>absurd (by decide) h) ?_;clear hK Kn
  try simp only[pt]
  refine aR (by kernel_rfl) ?_ _;go_upto_region 4 with fail;refine bV (F:=fun W=>aj W wb 37 #[.slice A' m c',.slice B n d,nI M]∧W.ownsRow w.heap.size 41 1 (.slice A' m c') m ((l.eraseIdx p).map kC)∧Mod [wb] w W) ⟨oN.out.1,oN.out.2.1,oN.out.2.2.2⟩ ?_;clear f0 e0 oN jE;rintro w5 ⟨sP,rM,Ae⟩;have p8:=qd sP;have HK5:=qd rM;have E5:=qd Ae;have Ad:=Bq HVr.out Ae (fun g hg=>by simpa using QM HVr.out HB.out (by decide) g hg);obtain⟨_,_,_,hs4,hr3⟩:=xD (t:=35) Tryz.underlying35 Gc Ad (j:=p) HP.out.1;obtain⟨Y,hs3,hr4,_,_⟩:=xD (t:=35) Tryz.underlying35 Gc Ad (j:=p1) HP.out.2;rw[←HZ.out]at hs3 hr4;have HT2:=qd hr3;have HD2:=qd hr4;have adY:wb<w5.heap.size:=sP.lt;have c1:=sP.cell 1;simp only[gl]at c1;clear sP rM Ad Ae hr3 hr4 hs1 hs2;refine rT (fun(w':World)=>w'.cell? ⟨wb,1,none⟩=some (.slice B n d)) [19] ?_;have hHeld:=c1;refine vW 0 rfl ?_;refine vW 2 rfl ?_;refine vW 3 rfl ?_;refine vW 4 rfl ?_;refine vT 5 rfl ?_;refine vW 6 rfl ?_;refine vW 7 rfl ?_;refine vW 9 rfl ?_;refine vW 10 rfl ?_;refine vW 11 rfl ?_;refine vT 12 rfl ?_;refine vW 13 rfl ?_;refine vW 14 rfl ?_;refine vW 15 rfl ?_;have hr0:cu w5.heap.size 38 1 w5 w5.drew [none]:=NG w5;clear hC;have hC:∀v:World,Below w5.heap.size w5 v→(fun(w':World)=>w'.cell? ⟨wb,1,none⟩=some (.slice B n d)) v:=fun v hv=>(hv.cell adY).trans c1;refine Mv fun WW fG=> ?_
  have Gg:∀(Dl:Nat) (NH:Value) (x50:Value) (v:World),cu w5.heap.size 38 1 w5 v [some ⟨x50,((0+p)+z),(((#[]:Array Value).toList++(l.map fF).take (p*1))++(l.map fF).drop (p1*1))⟩]→WW 3 #[true,true,true,true,true,true,true,true,true,true,true,true,true,true,true,true,true,false,false,false] ⟨Dk wb n c d x key p p1 z A B X Y x23 (.slice A' m c') g16 (.slice (some ⟨Dl,0,none⟩) 0 0) NH x50,[]⟩ v:=by
   intro Dl NH x50 v hr;refine inT fG ?_;unfold Dk;have o0:=hr.own 0 _ rfl;have jE:=hr.below;simp only at o0;rw[show((0+p)+z)=m by omega,HXv.out]at o0;obtain⟨B',d',rfl⟩:=bA o0;have oQ:=p8.out.below jE p8.out.lt;have f0:=oQ.frozen 1;have e0:=oQ.cell 1;simp only[gl]at e0;have YK:=qd (aas (u:= .slice B' m d') oQ E5.out jE (own_below HK5.out jE (Nat.le_refl _)) (nH o0 E5.out.size) Nw.out);clear oQ o0 hr;refine pK (i:=17) (o:=⟨some 51,_,_,_,_,_⟩) rfl (by kernel_rfl) (fun Kn hK=> ?_);go_simp;refine hK.out _ _ (fun _=>hC _ jE) ?_;clear hK Kn
   try simp only[pt]
   refine pK (i:=18) (o:=⟨some 52,_,_,_,_,_⟩) rfl (by kernel_rfl) (fun Kn hK=> ?_);go_simp;refine hK.out _ _ (fun _=>hC _ jE) ?_;clear hK Kn
   try simp only[pt]
   refine pK (i:=19) (o:=⟨none,_,_,_,_,_⟩) rfl (by kernel_rfl) (fun Kn hK=> ?_);go_simp;refine hK.out _ _ (fun h=>absurd (by decide) h) ?_;clear hK Kn
   try simp only[pt]
   refine aR (by kernel_rfl) ?_ _;go_wp2;refine bodyPost_ret (v:= .bool true) (by simp[results,Tryz.results16,go_sem]) rfl ⟨rfl,_,_,_,_,YK.out⟩
  have Il:∀(Dl:Nat) (NH:Value) (v:World),cu w5.heap.size 38 1 w5 v [some ⟨NH,(0+p),((#[]:Array Value).toList++(l.map fF).take (p*1))⟩]→WW 4 #[true,true,true,true,true,true,true,true,true,true,true,true,true,true,true,true,false,false,false,false] ⟨Dk wb n c d x key p p1 z A B X Y x23 (.slice A' m c') g16 (.slice (some ⟨Dl,0,none⟩) 0 0) NH undef,[]⟩ v:=by
   intro Dl NH v hr;refine inT fG ?_;unfold Dk;refine jI (is:=[16]) (by kernel_rfl) (by simp) ⟨⟨⟨some 50,_,_,_,_,_⟩,rfl,fun Kn hK=> ?_⟩,trivial⟩
   ·refine eB (by rfl) (by rfl) oO (hr.own 0 _ rfl) (by rfl) (by rfl) (((HD2.out.below hr.below).more (Nat.le_trans hr.base hr.below.size))) (oo (List.drop_sublist _ _) (Br l)) (by first|omega|(simp;omega)) (Nat.le_trans hr.base hr.below.size) ?_;intro v9 w9 ni kZ;have hn:=hr.grow 0 rfl kZ ni;refine hK.out _ _ (fun _=>hC _ hn.below) ?_
    try simp only[pt]
    exact outT fG (Gg Dl NH _ _ hn)
  have NA:∀(Dl:Nat) (v:World),cu w5.heap.size 38 1 w5 v [some ⟨.slice (some ⟨Dl,0,none⟩) 0 0,0,(#[]:Array Value).toList⟩]→WW 5 #[true,true,true,true,true,true,true,true,false,true,true,true,true,true,true,true,false,false,false,false] ⟨Dk wb n c d x key p p1 z A B X Y x23 (.slice A' m c') g16 (.slice (some ⟨Dl,0,none⟩) 0 0) undef undef,[]⟩ v:=by
   intro Dl v hr;refine inT fG ?_;unfold Dk;refine jI (is:=[8]) (by kernel_rfl) (by simp) ⟨⟨⟨some 42,_,_,_,_,_⟩,rfl,fun Kn hK=> ?_⟩,trivial⟩
   ·refine eB (by rfl) (by rfl) oO (hr.own 0 _ rfl) (by rfl) (by rfl) (((HT2.out.below hr.below).more (Nat.le_trans hr.base hr.below.size))) (oo (List.take_sublist _ _) (Br l)) (by first|omega|(simp;omega)) (Nat.le_trans hr.base hr.below.size) ?_;intro v9 w9 ni kZ;have hn:=hr.grow 0 rfl kZ ni;refine hK.out _ _ (fun _=>hC _ hn.below) ?_
    try simp only[pt]
    exact outT fG (Il Dl _ _ hn)
  have NC:∀(v:World),cu w5.heap.size 38 1 w5 v [none]→WW 6 #[true,false,true,true,true,true,true,true,false,true,true,true,true,true,true,true,false,false,false,false] ⟨Dk wb n c d x key p p1 z A B X Y x23 (.slice A' m c') g16 undef undef undef,[]⟩ v:=by
   intro v hr;refine inT fG ?_;unfold Dk;refine jI (is:=[1]) (by kernel_rfl) (by simp) ⟨⟨⟨some 35,_,_,_,_,_⟩,rfl,fun Kn hK=> ?_⟩,trivial⟩
   ·have hn:=hr.new 0 #[] 0 rfl (by decide);go_simp;refine hK.out _ _ (fun _=>hC _ hn.below) ?_
    try simp only[pt]
    exact outT fG (NA _ _ hn)
  exact SG (NC _ hr0) (by kernel_rfl) (by kernel_rfl) (by rfl)
 have Il:∀(g16:Nat) (x23:Value) (v:World),cu w4.heap.size 41 1 w4 v [some ⟨x23,(0+p),((#[]:Array Value).toList++(l.map kC).take (p*1))⟩]→WW 4 #[true,true,true,true,true,true,true,true,true,true,true,true,true,true,true,true,false,false,false,false] ⟨Dj wb n c d x key p p1 z A B X (.slice (some ⟨g16,0,none⟩) 0 0) x23 undef,[]⟩ v:=by
  intro g16 x23 v hr;refine inT fG ?_;unfold Dj;refine jI (is:=[16]) (by kernel_rfl) (by simp) ⟨⟨⟨some 31,_,_,_,_,_⟩,rfl,fun Kn hK=> ?_⟩,trivial⟩
  ·refine eB (by rfl) (by rfl) uH (hr.own 0 _ rfl) (by rfl) (by rfl) (((HD.out.below hr.below).more (Nat.le_trans hr.base hr.below.size))) (oo (List.drop_sublist _ _) (Dh l)) (by first|omega|(simp;omega)) (Nat.le_trans hr.base hr.below.size) ?_;intro v9 w9 ni kZ;have hn:=hr.grow 0 rfl kZ ni;refine hK.out _ _ (fun _=>hC _ hn.below) ?_
   try simp only[pt]
   exact outT fG (Gg g16 x23 _ _ hn)
 have NA:∀(g16:Nat) (v:World),cu w4.heap.size 41 1 w4 v [some ⟨.slice (some ⟨g16,0,none⟩) 0 0,0,(#[]:Array Value).toList⟩]→WW 5 #[true,true,true,true,true,true,true,true,false,true,true,true,true,true,true,true,false,false,false,false] ⟨Dj wb n c d x key p p1 z A B X (.slice (some ⟨g16,0,none⟩) 0 0) undef undef,[]⟩ v:=by
  intro g16 v hr;refine inT fG ?_;unfold Dj;refine jI (is:=[8]) (by kernel_rfl) (by simp) ⟨⟨⟨some 23,_,_,_,_,_⟩,rfl,fun Kn hK=> ?_⟩,trivial⟩
  ·refine eB (by rfl) (by rfl) uH (hr.own 0 _ rfl) (by rfl) (by rfl) (((HT.out.below hr.below).more (Nat.le_trans hr.base hr.below.size))) (oo (List.take_sublist _ _) (Dh l)) (by first|omega|(simp;omega)) (Nat.le_trans hr.base hr.below.size) ?_;intro v9 w9 ni kZ;have hn:=hr.grow 0 rfl kZ ni;refine hK.out _ _ (fun _=>hC _ hn.below) ?_
   try simp only[pt]
   exact outT fG (Il g16 _ _ hn)
 have NC:∀(v:World),cu w4.heap.size 41 1 w4 v [none]→WW 6 #[true,false,true,true,true,true,true,true,false,true,true,true,true,true,true,true,false,false,false,false] ⟨Dj wb n c d x key p p1 z A B X undef undef undef,[]⟩ v:=by
  intro v hr;refine inT fG ?_;unfold Dj;refine jI (is:=[1]) (by kernel_rfl) (by simp) ⟨⟨⟨some 16,_,_,_,_,_⟩,rfl,fun Kn hK=> ?_⟩,trivial⟩
  ·have hn:=hr.new 0 #[] 0 rfl (by decide);go_simp;refine hK.out _ _ (fun _=>hC _ hn.below) ?_
   try simp only[pt]
   exact outT fG (NA _ _ hn)
 exact SG (NC _ hr0) (by kernel_rfl) (by kernel_rfl) (by rfl)
theorem Vp (h:pY w base wb M F l)(hb:base≤w.heap.size)(hF:∀q∈F,q<w.heap.size)(h9:l.length≤1000)(ha:je l)(x v:Nat)(hx:x<18446744073709551616):
  Calls Tryz.prog 11 #[pQ wb,nU x,.float .f64 v] w fun e w'=>e= .returned (.int .i64 (if !kL l (aA x) && decide (M≤l.length)then 2 else 0))∧pY w' base wb M F (if !kL l (aA x) && decide (M≤l.length)then l else mH l (aA x) v)∧Mod [wb] w w':=by
 obtain⟨⟨A,c,B,d,h1,h2,h3,h4,h5⟩,h6,h7⟩:=h;have hR:=Reads.fD h2;have hV:=Reads.fD h3;have hnew:∀{w':World} {n:Nat} {u:Value} {xs:List Value} {t:TypeId},w'.ownsRow w.heap.size t 1 u n xs→∀g,u.ownBlock=some g→g∉F:=fun ho g hg Ij=>absurd (hF g Ij) (Nat.not_lt.2 (pR ho hg).1)
 cases hi:kL l (aA x)with
 |true=>
  rw[show(!true && decide (M≤l.length))=false from rfl]
  have Nv:mH l (aA x) v=l.set (gy l (aA x)) (aA x,v):=by unfold mH;rw[hi];rfl
  obtain⟨u,hv,_⟩:=(pG ha).1 hi;refine(Nu h1 hR hV h9 ha x v hx hi).mono ?_;rintro y w' ⟨rfl,B',d',g1,g2,g3⟩;refine⟨rfl,⟨?_,h6,h7⟩,g3⟩;rw[if_neg (by simp),Nv];have hl:(l.set (gy l (aA x)) (aA x,v)).length=l.length:=List.length_set;refine⟨A,c,B',d',by rw[hl];exact g1, ?_,by rw[hl];exact nH g2 hb,by rw[hl];exact h4,by rw[hl];exact hnew g2⟩;rw[hl,ab7 v hv];exact Bq h2 g3 (fun g hg=>by simpa using QM h2 h1 (by decide) g hg)
 |false=>
  by_cases hM:M≤l.length
  ·rw[show(!false && decide (M≤l.length))=true from by simp[hM]];refine(P5 h1 hR h9 ha x v hx hi hM).mono ?_;rintro y w' ⟨rfl,g1⟩;exact⟨rfl,⟨⟨A,c,B,d,h1.below g1 h1.lt,own_below h2 g1 (Nat.le_refl _),own_below h3 g1 (Nat.le_refl _),h4,h5⟩,h6,h7⟩,Mod.of_below g1 _⟩
  ·rw[show(!false && decide (M≤l.length))=false from by simp[hM]];refine(SH h1 h2 hV h9 ha x v hx hi (by omega)).mono ?_;rintro y w' ⟨rfl,A',c',B',d',g1,g2,g3,g4⟩
   have hl:l.length+1=(mH l (aA x) v).length:=by
    rw[EH ha,rz ha hi];rfl
   rw[hl]at g1 g2 g3;rw[if_neg (by simp)];exact⟨rfl,⟨⟨A',c',B',d',g1,nH g2 hb,nH g3 hb,hnew g2,hnew g3⟩,h6,h7⟩,g4⟩
theorem Vq (h:pY w base wb M F l)(hb:base≤w.heap.size)(hF:∀q∈F,q<w.heap.size)(h9:l.length≤1000)(ha:je l)(x:Nat)(hx:x<18446744073709551616):
  Calls Tryz.prog 16 #[pQ wb,nU x] w fun e w'=>e= .returned (.bool (kL l (aA x)))∧pY w' base wb M F (lN l (aA x))∧Mod [wb] w w':=by
 obtain⟨⟨A,c,B,d,h1,h2,h3,h4,h5⟩,h6,h7⟩:=h;have hnew:∀{w':World} {n:Nat} {u:Value} {xs:List Value} {t:TypeId},w'.ownsRow w.heap.size t 1 u n xs→∀g,u.ownBlock=some g→g∉F:=fun ho g hg Ij=>absurd (hF g Ij) (Nat.not_lt.2 (pR ho hg).1)
 cases hi:kL l (aA x)with
 |true=>
  refine(Js h1 h2 h3 h9 ha x hx hi).mono ?_;rintro y w' ⟨rfl,A',c',B',d',g1,g2,g3,g4⟩;exact⟨rfl,⟨⟨A',c',B',d',g1,nH g2 hb,nH g3 hb,hnew g2,hnew g3⟩,h6,h7⟩,g4⟩
 |false=>
  refine(Jr h1 (Reads.fD h2) h9 ha x hx hi).mono ?_;rintro y w' ⟨rfl,g1⟩
  have hD:lN l (aA x)=l:=by unfold lN;rw[hi];rfl
  rw[hD];exact⟨rfl,⟨⟨A,c,B,d,h1.below g1 h1.lt,own_below h2 g1 (Nat.le_refl _),own_below h3 g1 (Nat.le_refl _),h4,h5⟩,h6,h7⟩,Mod.of_below g1 _⟩
end
theorem Dm (tb gb:Nat)(T:aC)(mb:Nat)(mt:TypeId)(gQ eP:List Value)(mo:Nat)(a0 l0:bq)(m:Int)(c:bq)(key hash:Nat)(w:World)(h:TabAt w tb gb T)(hP:Pw T.gs.length)(h64:hash<18446744073709551616)(hM:Met w mb mt gQ eP mo a0 l0 m)(hmt:mb≠tb)(gH:mb≠gb)(hT:fP w)(hz:17 ≠mb)(i s:Nat)(hsk:(aJ T.gs key hash).1=some (i,s))(e0:av)(he0:aF T.gs i s= .full e0)(hS:Small T):
  Calls Tryz.prog 123 #[bU tb,aG (some ⟨mb,mo,none⟩) c,nU key,nU hash] w fun x w'=>x= .returned (eX (some e0))∧TabAt w' tb gb (iM T i s)∧Met w' mb mt gQ eP mo (eO a0 c (aJ T.gs key hash).2.2) (eO l0 c (aJ T.gs key hash).2.2) m∧Mod [mb,tb,gb] w w':=by
 obtain⟨W,hW,hB,hL,hR⟩:=kN w 163 #[.pointer (some ⟨mb,mo,none⟩),.int .i64 c.p,.int .i64 c.v,.int .i64 c.u] 166 #[.int .u64 0,.int .u64 0,.int .u64 0];have lc:=hL.c4;have hml:=hM.lt;have htl:=h.aT;have hgl:=h.aU;obtain⟨e1,he1,hk0,hil,hsl⟩:=vG hsk
 have tZ:s<8:=by have:=h.wide.at_ hil;omega
 have HW:=qd hW;have bQ:=qd (fun ap fp fs hap V hV=>gK tb gb key hash T ap fp fs hap V hV);have aX:=qd (sO tb gb key hash T mb mt gQ eP mo a0 l0 m c W (h.below hB) hP h64 (hM.below hB) hmt gH (hT.below hB) hz);unfold iq at bQ;obtain⟨fs,hfs⟩:∃fs,fs=bO (aJ T.gs key hash).2.1:=⟨_,rfl⟩;rw[hsk]at bQ aX;rw[←hfs]at aX;clear hfs;simp only[Option.map_some,he0,Slot.ent,bO,eX,Option.getD_some,Option.isSome_some]at bQ aX;unfold bK at aX;unfold bK aP at bQ;unfold bU aG eX aP;simp only[Option.getD_some,Option.isSome_some];have HT:=qd (h.below hB);have HR:=qd (hR);have ah:=qd (Mod.of_below hB [mb,tb,gb]);clear hW hB h hM hL hR hT he1;go_in;go_upto_region 1 with fail;rw[←HW.out];go_wp2_with fail;refine(aX.out).mono ?_;rintro x w1 ⟨ap,fp,rfl,hap,hfp,hM1,hm⟩;clear lc;replace HT:=qM hm HT;replace HR:=qM hm HR;replace ah:=qU ah hm;clear hm;obtain rfl:=hap i s rfl;clear hap hfp;have HM:=qd (hM1);clear hM1;go_upto_region 2 with fail;have q1:=qJ HT.out.aT (qJ HT.out.aU (qJ HR.out.lt (qJ HM.out.lt ah.out.size)));refine dF 205 #[pQ tb,nU key,nU hash,.pointer (some ⟨gb,i*25,none⟩),nI s,.pointer fp,.int .i64 fs] ?_;rintro w2 ⟨hnew,hb⟩;replace HT:=qB hb HT;replace HR:=qB hb HR;replace HM:=qB hb HM;replace ah:=qT ah hb;have HS:=qd (hnew);clear hnew hb;have sp:=HS.out.c7;go_wp2_with fail;refine(bQ.out (some ⟨gb,i*25,none⟩) fp fs (fun i2 s2 hh=>by cases hh;rfl) w2 HT.out).mono ?_;rintro x w3 ⟨rfl,hb⟩;clear sp;replace HT:=qB hb HT;replace HR:=qB hb HR;replace HM:=qB hb HM;replace HS:=qB hb HS
 replace ah:=qT ah hb;clear hb;go_upto_region 3 with fail;have q6:=qJ HT.out.aT (qJ HT.out.aU (qJ HR.out.lt (qJ HM.out.lt (qJ HS.out.lt ah.out.size))));refine dF 166 #[nU e0.key,nU e0.val,nU e0.hash] ?_;rintro w4 ⟨hnew,hb⟩;replace HT:=qB hb HT;replace HR:=qB hb HR;replace HM:=qB hb HM;replace HS:=qB hb HS;replace ah:=qT ah hb;have HD:=qd (hnew);clear hnew hb;have sp:=HS.out.c7;have dc:=HD.out.c3;have QT:=qd (EZ tb key hash gb fp fs T i s hil tZ e0 he0 hS w4.drew (HT.out.below (Below.refl _ _).drew));refine rT (fun(w':World)=>w'.cell? ⟨w3.heap.size,0,none⟩=some (nU e0.key)∧w'.cell? ⟨w3.heap.size,1,none⟩=some (nU e0.val)∧w'.cell? ⟨w3.heap.size,2,none⟩=some (nU e0.hash)∧w'.cell? ⟨w1.heap.size,0,none⟩=some (pQ tb)∧w'.cell? ⟨w1.heap.size,1,none⟩=some (nU key)∧w'.cell? ⟨w1.heap.size,2,none⟩=some (nU hash)∧w'.cell? ⟨w1.heap.size,3,none⟩=some (.pointer (some ⟨gb,i*25,none⟩))∧w'.cell? ⟨w1.heap.size,4,none⟩=some (nI s)∧w'.cell? ⟨w1.heap.size,5,none⟩=some (.pointer fp)∧w'.cell? ⟨w1.heap.size,6,none⟩=some (.int .i64 fs)) [7] ?_;have hHeld:=(⟨dc.1,dc.2.1,dc.2.2,sp.1,sp.2.1,sp.2.2.1,sp.2.2.2.1,sp.2.2.2.2.1,sp.2.2.2.2.2.1,sp.2.2.2.2.2.2⟩:_∧_∧_∧_∧_∧_∧_∧_∧_∧_);refine vT 0 rfl ?_;refine vW 1 rfl ?_;refine vW 2 rfl ?_;refine vT 3 rfl ?_;refine nT 4 rfl fun K hK=> ?_;go_simp;refine(QT.out).mono ?_;rintro x w5 ⟨rfl,oM,hm⟩;replace hm:Mod [tb,gb] w4 w5:=(Mod.drewN [tb,gb] w4 1).then hm;clear HT sp dc;replace HR:=qM hm HR;replace HM:=qM hm HM;replace HS:=qM hm HS;replace HD:=qM hm HD
 replace ah:=qU ah hm;have HT:=qd (oM);clear oM hm;have sp:=HS.out.c7;have dc:=HD.out.c3;have rc:=HR.out.c3;have rf:=HR.out.f3;go_simp;have hHeld:=(⟨dc.1,dc.2.1,dc.2.2,sp.1,sp.2.1,sp.2.2.1,sp.2.2.2.1,sp.2.2.2.2.1,sp.2.2.2.2.2.1,sp.2.2.2.2.2.2⟩:_∧_∧_∧_∧_∧_∧_∧_∧_∧_);refine kO hK ?_;clear hK K;refine vW 5 rfl ?_;refine vW 6 rfl ?_;refine nT 7 rfl fun K hK=> ?_;go_simp;refine kO hK ?_;clear hK K;refine vL 8 rfl ?_;refine aR (by kernel_rfl) ?_ _;clear HS HD;have q12:=qJ HR.out.lt (qJ HM.out.lt (qJ HT.out.aT HT.out.aU));have hnew:=(((HR.out.ak 0 (nU e0.key)).ak 1 (nU e0.val)).ak 2 (nU e0.hash));have hm:=((((Mod.refl [(w.heap.size+1)] w5).sl 0 (nU e0.key)).sl 1 (nU e0.val)).sl 2 (nU e0.hash));simp only[pt]at hnew;refine bV (F:=fun v=>aj v (w.heap.size+1) 166 #[nU e0.key,nU e0.val,nU e0.hash]∧Mod [(w.heap.size+1)] w5 v) ⟨hnew,hm⟩ ?_;clear hnew hm;rintro w6 ⟨hnew,hm⟩;replace HM:=qM hm HM;replace HT:=qM hm HT;replace ah:=qU ah hm;replace HR:=qd hnew;clear hnew hm;have rc:=HR.out.c3;go_wp2;refine bodyPost_ret (v:= .tuple #[.agg #[nU e0.key,nU e0.val,nU e0.hash],.bool true]) (by simp[results,Tryz.results123,go_sem,rc.1,rc.2.1,rc.2.2]) rfl ⟨rfl,HT.out,HM.out,ah.out⟩
theorem ED (tb gb:Nat)(T:aC)(mb:Nat)(mt:TypeId)(gQ eP:List Value)(mo:Nat)(a0 l0:bq)(m:Int)(c:bq)(key hash:Nat)(w:World)(h:TabAt w tb gb T)(hP:Pw T.gs.length)(h64:hash<18446744073709551616)(hM:Met w mb mt gQ eP mo a0 l0 m)(hmt:mb≠tb)(gH:mb≠gb)(hT:fP w)(hz:17 ≠mb)(hsk:(aJ T.gs key hash).1=none):
  Calls Tryz.prog 123 #[bU tb,aG (some ⟨mb,mo,none⟩) c,nU key,nU hash] w fun x w'=>x= .returned (eX none)∧TabAt w' tb gb T∧Met w' mb mt gQ eP mo (eO a0 c (aJ T.gs key hash).2.2) (eO l0 c (aJ T.gs key hash).2.2) m∧Mod [mb] w w':=by
 obtain⟨W,hW,hB,hL,hR⟩:=kN w 163 #[.pointer (some ⟨mb,mo,none⟩),.int .i64 c.p,.int .i64 c.v,.int .i64 c.u] 166 #[.int .u64 0,.int .u64 0,.int .u64 0];have lc:=hL.c4;have hml:=hM.lt;have htl:=h.aT;have hgl:=h.aU;have HW:=qd hW;have bQ:=qd (fun ap fp fs hap V hV=>gK tb gb key hash T ap fp fs hap V hV);have aX:=qd (sO tb gb key hash T mb mt gQ eP mo a0 l0 m c W (h.below hB) hP h64 (hM.below hB) hmt gH (hT.below hB) hz);unfold iq at bQ;obtain⟨fs,hfs⟩:∃fs,fs=bO (aJ T.gs key hash).2.1:=⟨_,rfl⟩;rw[hsk]at bQ aX;rw[←hfs]at aX;clear hfs;simp only[Option.map_none,Slot.ent,bO,eX,Option.getD_none,Option.isSome_none]at bQ aX;unfold bK at aX;unfold bK aP at bQ;unfold bU aG eX aP;simp only[Option.getD_none,Option.isSome_none];have HT:=qd (h.below hB);have HR:=qd (hR);have ah:=qd (Mod.of_below hB [mb]);clear hW hB h hM hL hR hT;go_in;go_upto_region 1 with fail;rw[←HW.out];go_wp2_with fail;refine(aX.out).mono ?_;rintro x w1 ⟨ap,fp,rfl,hap,hfp,hM1,hm⟩;clear lc;replace HT:=qM hm HT;replace HR:=qM hm HR;replace ah:=qU ah hm;clear hm hap hfp;have HM:=qd (hM1);clear hM1;go_upto_region 2 with fail;have q1:=qJ HT.out.aT (qJ HT.out.aU (qJ HR.out.lt (qJ HM.out.lt ah.out.size)));refine dF 205 #[pQ tb,nU key,nU hash,.pointer ap,.int .i64 (-1),.pointer fp,.int .i64 fs] ?_;rintro w2 ⟨hnew,hb⟩;replace HT:=qB hb HT;replace HR:=qB hb HR;replace HM:=qB hb HM;replace ah:=qT ah hb;have HS:=qd (hnew);clear hnew hb;have sp:=HS.out.c7;go_wp2_with fail
 refine(bQ.out ap fp fs (fun i2 s2 hh=>by cases hh) w2 HT.out).mono ?_;rintro x w3 ⟨rfl,hb⟩;clear sp;replace HT:=qB hb HT;replace HR:=qB hb HR;replace HM:=qB hb HM;replace HS:=qB hb HS;replace ah:=qT ah hb;clear hb;go_upto_region 3 with fail;have q6:=qJ HT.out.aT (qJ HT.out.aU (qJ HR.out.lt (qJ HM.out.lt (qJ HS.out.lt ah.out.size))));refine dF 166 #[.int .u64 0,.int .u64 0,.int .u64 0] ?_;rintro w4 ⟨hnew,hb⟩;replace HT:=qB hb HT;replace HR:=qB hb HR;replace HM:=qB hb HM;replace HS:=qB hb HS;replace ah:=qT ah hb;have HD:=qd (hnew);clear hnew hb;have sp:=HS.out.c7;have dc:=HD.out.c3;have rc:=HR.out.c3;have rf:=HR.out.f3;refine rT (fun(w':World)=>w'.cell? ⟨w3.heap.size,0,none⟩=some (.int .u64 0)∧w'.cell? ⟨w3.heap.size,1,none⟩=some (.int .u64 0)∧w'.cell? ⟨w3.heap.size,2,none⟩=some (.int .u64 0)) [7] ?_;have hHeld:=(⟨dc.1,dc.2.1,dc.2.2⟩:_∧_∧_);refine vT 0 rfl ?_;refine vW 1 rfl ?_;refine vW 2 rfl ?_;refine vU 3 rfl ?_;refine vU 4 rfl ?_;refine vU 5 rfl ?_;refine vW 6 rfl ?_;refine nT 7 rfl fun K hK=> ?_;go_simp;refine kO hK ?_;clear hK K;refine vL 8 rfl ?_;refine aR (by kernel_rfl) ?_ _;clear HS HD;have q12:=qJ HT.out.aT (qJ HT.out.aU (qJ HR.out.lt HM.out.lt));have hnew:=(((HR.out.ak 0 (.int .u64 0)).ak 1 (.int .u64 0)).ak 2 (.int .u64 0)).drew;have hm:=(((((Mod.refl [(w.heap.size+1)] w4).sl 0 (.int .u64 0)).sl 1 (.int .u64 0)).sl 2 (.int .u64 0)).then (Mod.drewN [(w.heap.size+1)] _ 1));simp only[pt]at hnew
 refine bV (F:=fun v=>aj v (w.heap.size+1) 166 #[.int .u64 0,.int .u64 0,.int .u64 0]∧Mod [(w.heap.size+1)] w4 v) ⟨hnew,hm⟩ ?_;clear hnew hm;rintro w6 ⟨hnew,hm⟩;replace HT:=qM hm HT;replace HM:=qM hm HM;replace ah:=qU ah hm;replace HR:=qd hnew;clear hnew hm;have rc:=HR.out.c3;go_wp2;refine bodyPost_ret (v:= .tuple #[.agg #[.int .u64 0,.int .u64 0,.int .u64 0],.bool false]) (by simp[results,Tryz.results123,go_sem,rc.1,rc.2.1,rc.2.2]) rfl ⟨rfl,HT.out,HM.out,ah.out⟩
theorem Im (tb gb:Nat)(T:aC)(mb:Nat)(mt:TypeId)(gQ eP:List Value)(mo:Nat)(a0 l0:bq)(m:Int)(c:bq)(i:Nat)(hi:i<T.gs.length)(w:World)(h:TabAt w tb gb T)(hM:Met w mb mt gQ eP mo a0 l0 m)(hmt:mb≠tb)(gH:mb≠gb):
  Calls Tryz.prog 314 #[bU tb,aG (some ⟨mb,mo,none⟩) c,nI i] w fun x w'=>x= .returned (.tuple #[bC ⟨gb,i*25,none⟩,.bool true])∧Met w' mb mt gQ eP mo (ji a0 c) (ji l0 c) m∧Mod [mb] w w':=by
 obtain⟨W,hW,hB,hL,hR⟩:=kN w 163 #[.pointer (some ⟨mb,mo,none⟩),.int .i64 c.p,.int .i64 c.v,.int .i64 c.u] 201 #[.pointer none];have lc:=hL.c4;have KA:=hR.cell 0;simp only[List.getElem?_toArray,List.getElem?_cons_zero]at KA;have hml:=hM.lt;have htl:=h.aT;have hgl:=h.aU;have HW:=qd hW
 have hi':(i:Int)<(T.gs.length:Int):=by omega
 have hi0:¬((i:Int)<0):=by omega
 have hi2:(0:Int)≤(i:Int):=by omega
 have uf:=qd (wV ⟨gb,i*25,none⟩ mb mt gQ eP mo a0 l0 m c W.drew (hM.below (hB.trans ((Below.refl _ _).drew.mono hB.size))));obtain⟨ug,tc1,tc2⟩:=(h.below hB).cells;unfold aG at uf;unfold bU aG bC;have HT:=qd (h.below hB);have HR:=qd (hR);have ah:=qd (Mod.of_below hB [mb]);clear hW hB h hM hL hR;go_in;go_upto_region 1 with fail;rw[←HW.out];go_upto_region 3 with fail;refine rT (fun(w':World)=>w'.cell? ⟨tb,0,none⟩=some (.slice (some ⟨gb,0,none⟩) T.gs.length T.gs.length)∧w'.cell? ⟨w.heap.size,0,none⟩=some (.pointer (some ⟨mb,mo,none⟩))∧w'.cell? ⟨w.heap.size,1,none⟩=some (.int .i64 c.p)∧w'.cell? ⟨w.heap.size,2,none⟩=some (.int .i64 c.v)∧w'.cell? ⟨w.heap.size,3,none⟩=some (.int .i64 c.u)) [7,8] ?_;have hHeld:=(⟨ug,lc.1,lc.2.1,lc.2.2.1,lc.2.2.2⟩:_∧_∧_∧_∧_);refine vW 0 rfl ?_;refine vW 1 rfl ?_;refine vW 2 rfl ?_;refine vT 3 rfl ?_;refine vW 4 rfl ?_;refine vW 5 rfl ?_;refine vT 6 rfl ?_;refine nT 7 rfl fun K hK=> ?_;go_simp;refine(uf.out).mono ?_;rintro x w1 ⟨rfl,hM1,hm⟩;replace hm:Mod [mb] W w1:=(Mod.drewN [mb] W 1).then hm;clear lc KA;replace HT:=qM hm HT;replace HR:=qM hm HR;replace ah:=qU ah hm;have HM:=qd (hM1);clear hM1 hm;unfold bC;have KA:=HR.out.cell 0;simp only[List.getElem?_toArray,List.getElem?_cons_zero]at KA;have rf0:=HR.out.frozen 0;have n0:=HT.out.cells.1;go_simp;refine kO hK ?_;clear hK K;refine nT 8 rfl fun K hK=> ?_;go_simp;refine kO hK ?_;clear hK K;refine vL 9 rfl ?_;refine aR (by kernel_rfl) ?_ _;have q1:=qJ HT.out.aT (qJ HT.out.aU (qJ HR.out.lt HM.out.lt))
 have hnew:=(HR.out.ak 0 (.pointer (some ⟨gb,i*25,none⟩)));have hm:=((Mod.refl [(w.heap.size+1)] w1).sl 0 (.pointer (some ⟨gb,i*25,none⟩)));simp only[pt]at hnew;refine bV (F:=fun v=>aj v (w.heap.size+1) 201 #[.pointer (some ⟨gb,i*25,none⟩)]∧Mod [(w.heap.size+1)] w1 v) ⟨hnew,hm⟩ ?_;clear hnew hm;rintro w2 ⟨hnew,hm⟩;clear KA rf0;replace HT:=qM hm HT;replace HM:=qM hm HM;replace ah:=qU ah hm;replace HR:=qd hnew;clear hnew hm;have KA:=HR.out.cell 0;simp only[List.getElem?_toArray,List.getElem?_cons_zero]at KA;go_wp2;refine bodyPost_ret (v:= .tuple #[.agg #[.pointer (some ⟨gb,i*25,none⟩)],.bool true]) (by simp[results,Tryz.results314,go_sem,KA]) rfl ⟨rfl,HM.out,ah.out⟩
theorem LH (tb gb:Nat)(T:aC)(mb:Nat)(mt:TypeId)(gQ eP:List Value)(mo:Nat)(a0 l0:bq)(m:Int)(c:bq)(i:Nat)(hi:i<T.gs.length)(w:World)(h:TabAt w tb gb T)(hM:Met w mb mt gQ eP mo a0 l0 m)(hmt:mb≠tb)(gH:mb≠gb):
  Calls Tryz.prog 309 #[bU tb,aG (some ⟨mb,mo,none⟩) c,nI i] w fun x w'=>x= .returned .nilIface∧TabAt w' tb gb {T with gs:=T.gs.set i (List.replicate 8 .empty)}∧Met w' mb mt gQ eP mo (ji a0 c) (ji l0 c) m∧Mod [mb,tb,gb] w w':=by
 have hB:=(Below.refl w.heap.size w).alloc (Nat.le_refl _) (.cells #[.pointer (some ⟨mb,mo,none⟩),.int .i64 c.p,.int .i64 c.v,.int .i64 c.u] 163);have hL:=aj.new w 163 #[.pointer (some ⟨mb,mo,none⟩),.int .i64 c.p,.int .i64 c.v,.int .i64 c.u];obtain⟨W,hW⟩:∃W,W=w.alloc (.cells #[.pointer (some ⟨mb,mo,none⟩),.int .i64 c.p,.int .i64 c.v,.int .i64 c.u] 163):=⟨_,rfl⟩;rw[←hW]at hB hL;obtain⟨Ko,Kq,Kr,Kt⟩:=hL.c4;have hml:=hM.lt;have htl:=h.aT;have hgl:=h.aU;have HW:=qd hW;have uf:=qd (Im tb gb T mb mt gQ eP mo a0 l0 m c i hi W (h.below hB) (hM.below hB) hmt gH);unfold bU aG bC at uf;unfold bU aG;have HT:=qd (h.below hB);have ah:=qd (Mod.of_below hB [mb,tb,gb]);clear hW hB h hM hL;go_in;go_upto_region 1 with fail;rw[←HW.out];go_wp2_with fail;refine(uf.out).mono ?_;rintro x w1 ⟨rfl,hM1,hm⟩;clear Ko Kq Kr Kt;replace HT:=qM hm HT;replace ah:=qU ah hm;clear hm;have HM:=qd (hM1);clear hM1;go_upto_region 4 with fail;have q1:=qJ HT.out.aT (qJ HT.out.aU (qJ HM.out.lt ah.out.size));refine dF 201 #[.pointer (some ⟨gb,i*25,none⟩)] ?_;rintro w2 ⟨hnew,hb⟩;replace HT:=qB hb HT;replace HM:=qB hb HM;replace ah:=qT ah hb;have HV:=qd (hnew);clear hnew hb;have Ag:=HV.out.cell 0;simp only[List.getElem?_toArray,List.getElem?_cons_zero]at Ag;have yU:=qd (Kl gb 246 _ _ (i*25) _ w2 (HT.out.group i hi));unfold bC at yU;go_wp2_with fail;refine(yU.out).mono ?_;rintro x w3 ⟨rfl,hG3,hm⟩;have Cg:=HT.out.oL i hi hm hG3;clear HT hG3 HV Ag
 replace HM:=qM hm HM;replace ah:=qU ah hm;have HT:=qd (Cg);clear hm Cg;go_wp2;go_ret;exact⟨rfl,HT.out,HM.out,ah.out⟩
section
variable {T : aC} {i s : Nat}
structure mg (T:aC):Prop where
 wide:qP T.gs
 pow:Pw T.gs.length
 live:T.live=((aM T.gs).length:Int)
 bW:T.bW=(eT T.gs:Int)
theorem mg.small (h:mg T):Small T:=by
 have h1:=UF h.wide;have h2:=h.pow.le;exact⟨by rw[h.live];omega,by rw[h.live];omega,by rw[h.bW];omega,by rw[h.bW];omega,h2⟩
theorem mg.put (h:mg T)(hi:i<T.gs.length)(hs:s<(T.gs.getD i []).length)(x:Slot){l t:Int}(hl:l=T.live+x.ents.length-(aF T.gs i s).ents.length)(ht:t=T.bW+x.kJ-(aF T.gs i s).kJ):mg ⟨putAt T.gs i s x,l,t⟩:=by
 have h1:=(CK hi hs x).length_eq;have h2:=wU hi hs x;rw[List.length_append,List.length_append]at h1;have h3:=h.live;have h4:=h.bW;exact⟨h.wide.put _ _ _,by show Pw (putAt _ _ _ _).length;rw[gY];exact h.pow,by show l=((aM (putAt T.gs i s x)).length:Int);omega,by show t=(eT (putAt T.gs i s x):Int);omega⟩
theorem mg.erase (h:mg T){e:av}(he:aF T.gs i s= .full e):mg (iM T i s):=by
 obtain⟨hi,hs⟩:=jY (gs:=T.gs) (i:=i) (s:=s) (by rw[he];exact fun h=>by cases h);unfold iM
 cases ho:dH (T.gs.getD i [])with
 |true=>exact h.put hi hs _ (by rw[he];simp[Slot.ents]<;>omega) (by rw[he];simp[Slot.kJ,Slot.iL]<;>omega)
 |false=>exact h.put hi hs _ (by rw[he];simp[Slot.ents]<;>omega) (by rw[he];simp[Slot.kJ,Slot.iL]<;>omega)
theorem mg.place (h:mg T)(hi:i<T.gs.length)(hs:s<(T.gs.getD i []).length)(he:(aF T.gs i s).isFull=false)(e:av):mg (jC T i s e):=by
 unfold jC
 cases hx:aF T.gs i s with
 |full y=>rw[hx]at he;cases he
 |empty=>exact h.put hi hs _ (by rw[hx];simp[Slot.ents]<;>omega) (by rw[hx];simp[Slot.kJ,Slot.iL]<;>omega)
 |qm=>exact h.put hi hs _ (by rw[hx];simp[Slot.ents]<;>omega) (by rw[hx];simp[Slot.kJ,Slot.iL]<;>omega)
theorem mg.replace (h:mg T){v:Nat}{e:av}(he:aF T.gs i s= .full e):mg (replaceM T i s v e):=by
 obtain⟨hi,hs⟩:=jY (gs:=T.gs) (i:=i) (s:=s) (by rw[he];exact fun h=>by cases h);exact h.put hi hs _ (by rw[he];simp[Slot.ents]<;>omega) (by rw[he];simp[Slot.kJ,Slot.iL]<;>omega)
def fQ (T:aC)(i s:Nat):aC:=if(aF T.gs i s).isFull then iM T i s else T
def takeN (T:aC)(i:Nat):Nat→aC
 |0=>T
 |k+1=>fQ (takeN T i k) i k
theorem mg.adZ (h:mg T)(i s:Nat):mg (fQ T i s):=by
 unfold fQ
 cases hx:aF T.gs i s with
 |full e=>rw[if_pos (by rfl)];exact h.erase hx
 |empty=>rw[if_neg (by simp[Slot.isFull])];exact h
 |qm=>rw[if_neg (by simp[Slot.isFull])];exact h
theorem mg.tkN (h:mg T)(i:Nat):∀k,mg (takeN T i k)
 |0=>h
 |k+1=>(h.tkN i k).adZ i k
theorem Cm (T:aC)(i s:Nat):(iM T i s).gs.length=T.gs.length:=gY _ _ _ _
theorem sQ (T:aC)(i:Nat):∀k,(takeN T i k).gs.length=T.gs.length
 |0=>rfl
 |k+1=>by
  show(fQ _ _ _).gs.length=_;unfold fQ;split
  ·rw[Cm,sQ T i k]
  ·exact sQ T i k
theorem abe {w w':World}{S:List Nat}{base:Nat}{e:TypeId}{size n:Nat}{v:Value}{xs:List Value}(h:w.ownsRow base e size v n xs)(hm:Mod S w w')(hS:∀k,k∈S→k<base):w'.ownsRow base e size v n xs:=by
 refine⟨h.1, ?_⟩;rcases h.2 with hn|⟨g,cap,cur,hv,hb,hg,rest⟩
 ·exact .inl hn
 ·exact .inr ⟨g,cap,cur,hv,hb,(hm.block g (Array.getElem?_eq_some_iff.1 hg).1 (fun hh=>absurd (hS g hh) (by omega))).trans hg,rest⟩
instance {w w':World}{base:Nat}{e:TypeId}{size n:Nat}{v:Value}{xs:List Value}:Md (w.ownsRow base e size v n xs) w w' (w'.ownsRow base e size v n xs) (fun S=>∀k,k∈S→k<base):=⟨fun h hm hs=>abe h hm hs⟩
end
end Go.Proofs.YtnfjjbpmhcbelaaGreatDoor
