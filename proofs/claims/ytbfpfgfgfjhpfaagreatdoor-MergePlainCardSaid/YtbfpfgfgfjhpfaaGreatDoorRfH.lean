/- amblerref26.Func: Sorted. No statement of the claim. -/
import Derived.Test.YtbfpfgfgfjhpfaaGreatDoorRfG
import Derived.Test.YtbfpfgfgfjhpfaaGreatDoorCoG
import Derived.Test.YtbfpfgfgfjhpfaaGreatDoorSq
import Derived.Test.YtbfpfgfgfjhpfaaGreatDoorPlA
import Derived.Deep.CutBlock
import Derived.Test.YtbfpfgfgfjhpfaaGreatDoorCoX
namespace Go.Proofs.YtbfpfgfgfjhpfaaGreatDoor
set_option maxRecDepth 100000
set_option maxHeartbeats 16000000
open Go.RowKit dP zW
section
variable {O l : PL} {k : Nat} {w : World}
theorem aae:(Tryz.prog.info? 38).map (fun i=>(i.zero,i.size,i.bytes))=some (some (.agg #[.int .u64 0,.int .u64 0]),2,16):=by kernel_rfl
theorem Cm:vX Tryz.prog 30 38 2 16:=Ga Tryz.underlying30 aae rfl (by decide) (by decide)
theorem aaf:∀w,(sizeOf 38).run Tryz.prog w= .ok 2 w:=fun w=>by kernel_rfl
theorem one_sub {xs:List Value}(h:xs.Sublist (l.flatMap aM)):(xs.all fun u=>u.oneCell')=true:=by
 rw[List.all_eq_true];intro u hu;obtain⟨q,_,hq⟩:=List.mem_flatMap.1 (h.subset hu);unfold aM at hq;simp only[List.mem_cons,List.not_mem_nil,or_false]at hq
 rcases hq with rfl|rfl<;>rfl
def lq (O:PL)(k:Nat):Nat:=(O.takeWhile fun e=>decide (e.1<k)).length
def zU (O:PL)(q:Nat×Nat):PL:=O.take (lq O q.1)++q::O.drop (lq O q.1)
def oh (l:PL):PL:=l.foldl zU []
theorem J6 (O:PL)(k:Nat):lq O k≤O.length:=(List.takeWhile_sublist _).length_le
theorem abZ {p:Nat}(h:p<lq O k):∃e,O[p]?=some e∧e.1<k:=by
 unfold lq at h
 induction O generalizing p with
 |nil=>simp at h
 |cons x l ih=>
  by_cases hx:x.1<k
  ·rw[List.takeWhile_cons_of_pos (by simpa using hx),List.length_cons]at h
   cases p with
   |zero=>exact⟨x,rfl,hx⟩
   |succ p=>simpa using ih (p:=p) (by omega)
  ·rw[List.takeWhile_cons_of_neg (by simpa using hx)]at h;simp at h
theorem ab0 {e:Nat×Nat}(h:O[lq O k]?=some e):¬e.1<k:=by
 unfold lq at h
 induction O with
 |nil=>simp at h
 |cons x l ih=>
  by_cases hx:x.1<k
  ·rw[List.takeWhile_cons_of_pos (by simpa using hx),List.length_cons]at h;exact ih (by simpa using h)
  ·rw[List.takeWhile_cons_of_neg (by simpa using hx)]at h
   obtain rfl:x=e:=by simpa using h
   exact hx
theorem aag (O:PL)(q:Nat×Nat):(zU O q).length=O.length+1:=by
 unfold zU;have:=J6 O q.1;simp only[List.length_append,List.length_take,List.length_cons,List.length_drop];omega
theorem UR (l:PL)(q:Nat×Nat):oh (l++[q])=zU (oh l) q:=by
 unfold oh;rw[List.foldl_append];rfl
theorem Ez (l:PL):(oh l).length=l.length:=by
 have:∀(l t:PL),(l.foldl zU t).length=t.length+l.length:=by
  intro l
  induction l with
  |nil=>intro t;rfl
  |cons q l ih=>intro t;rw[List.foldl_cons,ih,aag,List.length_cons];omega
 simpa[oh]using this l []
theorem ab1 {g o:Nat}{u:Value}(h:w.cell? ⟨g,o,none⟩=some u):g<w.heap.size:=by
 rcases Nat.lt_or_ge g w.heap.size with h1|h1
 ·exact h1
 ·simp[World.cell?,Array.getElem?_eq_none h1]at h
theorem G8:∀(O:PL) (p:Nat),(O.flatMap aM).take (p*2)=(O.take p).flatMap aM∧(O.flatMap aM).drop (p*2)=(O.drop p).flatMap aM
 | [],p=>by simp
 |x::l,0=>by simp
 |x::l,p+1=>by
  obtain⟨h1,h2⟩:=G8 l p;rw[show(p+1)*2=p*2+2 from by omega];simp only[List.flatMap_cons,aM,List.cons_append,List.nil_append,List.take_succ_cons,List.drop_succ_cons,h1,h2];exact⟨trivial,trivial⟩
def wK (w:World)(fb n c d i p z gA oA gB oB cO:Nat)(AO X:Option Addr)(q:Nat×Nat)(u18 u19 u20 u21 u22 u23 u24 u25 u26 u27 u28 u29 u30 u31 u32 u53:Value)(y33 y37 y47 y48 y52:Value):Array Value:= #[.pointer (some ⟨fb,0,none⟩),undef,.slice none 0 0,.slice AO i cO,.int .i64 (i:Int),.int .u64 (q.1:Int),.int .i64 (p:Int),.slice (some ⟨w.heap.size,0,none⟩) 0 0,.pointer (some ⟨fb,0,none⟩),.pointer (some ⟨fb,0,none⟩),.pointer (some ⟨fb,1,none⟩),.slice (some ⟨gA,oA,none⟩) n c,.int .i64 (n:Int),.int .i64 (i:Int),.bool true,.int .i64 (i:Int),.pointer (some ⟨gA,oA+i,none⟩),.int .u64 (q.1:Int),u18,u19,u20,u21,u22,u23,u24,u25,u26,u27,u28,u29,u30,u31,u32,y33,.slice AO i cO,.int .i64 (p:Int),.slice AO p cO,y37,.int .u64 (q.1:Int),.pointer (some ⟨fb,0,none⟩),.pointer (some ⟨fb,0,none⟩),.pointer (some ⟨fb,2,none⟩),.slice (some ⟨gB,oB,none⟩) n d,.int .i64 (i:Int),.pointer (some ⟨gB,oB+i,none⟩),.int .u64 (q.2:Int),.agg #[.int .u64 (q.1:Int),.int .u64 (q.2:Int)],y47,y48,.slice AO i cO,.int .i64 (p:Int),.slice X z (cO-p),y52,u53,undef]
theorem XT {base fb M:Nat}(h:oI w base fb M l)(h9:l.length≤1000):
  Calls Tryz.prog 24 #[.pointer (some ⟨fb,0,none⟩)] w fun y w'=>∃v,y= .returned v∧w'.ownsRow w.heap.size 38 2 v l.length ((oh l).flatMap aM)∧Below w.heap.size w w':=by
 obtain⟨A,c,B,d,hB,hK,hV⟩:=h;have c1:=hB.cell 1;have c2:=hB.cell 2;simp only[gl]at c1 c2;obtain⟨n,hn⟩:∃n,n=l.length:=⟨_,rfl⟩;have HN:=qd hn;have hlt:=hB.lt;have Rb:=qd hlt;have HK:=qd (Reads.eO hK);have HV:=qd (Reads.eO hV);rw[←hn]at c1 c2;have oC:=qd c2;have P6:=(Below.refl w.heap.size w).alloc (Nat.le_refl _) (.cells #[] 38);have HO:=qd (show(w.alloc (.cells #[] 38)).ownsRow w.heap.size 38 2 (.slice (some ⟨w.heap.size,0,none⟩) 0 0) 0 ((oh (l.take 0)).flatMap aM)from Nt w w.heap.size 38 2 (Nat.le_refl _));have HB:=qd P6;have c1A:=aA P6 c1
 have hn9:n≤1000:=by omega
 rw[←hn];clear hB hK hV hn h9 P6 c1 c2 hlt;go_in;go_wp2;go_loopw [3,4,5,6,13] (fun v3 _ _ _ v13 wr=>∃i:Nat,i≤n∧v13= .int .i64 (i:Int)∧Hid (wr.ownsRow w.heap.size 38 2 v3 i ((oh (l.take i)).flatMap aM))∧Hid (Below w.heap.size w wr)) (fun _ _ _ _ v13 _=>n-(intOf v13).toNat)
 case atStart=>exact⟨0,Nat.zero_le _,rfl,HO,HB⟩
 case round=>
  clear HO HB;obtain⟨i,hi,rfl,HO,HB⟩:=hrel;by_cases hlt:i<n
  ·have hlt':(i:Int)<(n:Int):=by omega
   have hi0:(0:Int)≤(i:Int):=by omega
   obtain⟨q,hq⟩:∃q,l[i]?=some q:=⟨_,List.getElem?_eq_getElem (by have:=HN.out;omega)⟩;obtain⟨gA,oA,hA,hgA,k0⟩:=Jl HK.out hq;obtain⟨gB,oB,R7,hgB,v0⟩:=Jl HV.out hq;subst hA;subst R7;have r0:wr.cell? ⟨gA,oA+i,none⟩=some (.int .u64 (q.1:Int)):=aA HB.out k0;have r1:wr.cell? ⟨gB,oB+i,none⟩=some (.int .u64 (q.2:Int)):=aA HB.out v0;have R1:=qd r1;obtain⟨O,hO⟩:∃O,O=oh (l.take i):=⟨_,rfl⟩
   have hOl:O.length=i:=by rw[hO,Ez,List.length_take];have:=HN.out;omega
   have hSn:oh (l.take (i+1))=zU O q:=by rw[List.take_add_one,hq,hO];exact UR _ _
   rw[←hO]at HO;obtain⟨AO,cO,rfl⟩:=aU HO.out;have HOl:=qd hOl;have eG:=qd hSn;have kY:=qd (Reads.eO HO.out);clear hq k0 v0 hgA hgB hO hOl hSn r1 c1A;go_upto_block 2 with fail
   go_cut [6]from 18 to 32 (fun v6 wx=>v6= .int .i64 (lq O q.1:Int)∧wx=wr)
   case first=>
    go_wp2_with fail;go_loopw [6] (fun v6 wx=>wx=wr∧∃p:Nat,p≤lq O q.1∧v6= .int .i64 (p:Int)) (fun v6 _=>i-(intOf v6).toNat)
    case atStart=>exact⟨rfl,0,Nat.zero_le _,rfl⟩
    case round=>
     obtain⟨rfl,p,hp,rfl⟩:=hrel;have hpO:=J6 O q.1;have hOl:=HOl.out
     have hp0:(0:Int)≤(p:Int):=by omega
     by_cases hlt2:p<lq O q.1
     ·obtain⟨e,he,hek⟩:=abZ hlt2
      have hpi:p<i:=by omega
      have adD:(p:Int)<(i:Int):=by omega
      have aeZ:(e.1:Int)<(q.1:Int):=by omega
      obtain⟨gO,oO,hAO,_,hc⟩:=kY.out.2 (by omega);have s0:wr.cell? ⟨gO,oO+p*2,none⟩=some (.int .u64 (e.1:Int)):=hc (p*2+0) _ (dS he (by omega));subst hAO
      have hwp:IntKind.i64.wrap ((p:Int)+1)=((p+1:Nat):Int):=by rw[IntKind.wrap_i64];omega
      have HP2:=qd (Nat.succ_le_of_lt hlt2);have Wh:=qd (show i-(p+1)<i-p by omega);clear hc he;go_wp2;go_roundw
      case measure=>simp[intOf];exact Wh.out
      exact⟨trivial,p+1,HP2.out,rfl⟩
     ·obtain rfl:p=lq O q.1:=by omega
      by_cases hpi:lq O q.1<i
      ·obtain⟨e,he⟩:∃e,O[lq O q.1]?=some e:=⟨_,List.getElem?_eq_getElem (by omega)⟩;have hek:=ab0 he
       have aeZ:¬(e.1:Int)<(q.1:Int):=by omega
       have adD:(lq O q.1:Int)<(i:Int):=by omega
       obtain⟨gO,oO,hAO,_,hc⟩:=kY.out.2 (by omega);have s0:wr.cell? ⟨gO,oO+lq O q.1*2,none⟩=some (.int .u64 (e.1:Int)):=hc (lq O q.1*2+0) _ (dS he (by omega));subst hAO;clear hc he;generalize lq O q.1=pp at*;go_wp2;go_meet
       case rel=>exact⟨rfl,rfl⟩
      ·have adD:¬(lq O q.1:Int)<(i:Int):=by omega
       generalize lq O q.1=pp at*;go_wp2;go_meet
       case rel=>exact⟨rfl,rfl⟩
   case rest=>
    obtain⟨rfl,rfl⟩:=hcut;obtain⟨p,hp⟩:∃p,p=lq O q.1:=⟨_,rfl⟩;rw[←hp]
    have hpi:p≤i:=by rw[hp];have:=J6 O q.1;have:=HOl.out;omega
    obtain⟨X,hs1,hr2,hs2,hr1⟩:=abb (t:=30) Tryz.underlying30 aaf HO.out (j:=p) hpi;obtain⟨z,hz⟩:∃z,z=i-p:=⟨_,rfl⟩;rw[←hz]at hs1 hr2;have HT:=qd hr1;have HD:=qd hr2
    have hiN:i≤1000:=by omega
    have hzi:z≤i:=by omega
    have PI:=qd (show∀(v:World) (x:Value),Below wc.heap.size wc v→v.ownsRow wc.heap.size 38 2 x (((0+p)+1)+z) ((((#[]:Array Value).toList++(O.flatMap aM).take (p*2))++(#[.int .u64 (q.1:Int),.int .u64 (q.2:Int)]:Array Value).toList)++(O.flatMap aM).drop (p*2))→Hid (v.ownsRow w.heap.size 38 2 x (i+1) ((oh (l.take (i+1))).flatMap aM))∧Hid (Below w.heap.size w v)from fun v x hb ho=>by
     have e1:(((0+p)+1)+z)=i+1:=by omega
     have e2:((((#[]:Array Value).toList++(O.flatMap aM).take (p*2))++(#[.int .u64 (q.1:Int),.int .u64 (q.2:Int)]:Array Value).toList)++(O.flatMap aM).drop (p*2))=(oh (l.take (i+1))).flatMap aM:=by
      rw[eG.out];unfold zU;rw[←hp,(G8 O p).1,(G8 O p).2,List.flatMap_append,List.flatMap_cons];simp[aM]
     rw[e1,e2]at ho
     exact⟨qd (pX ho HB.out.size),qd (HB.out.trans (hb.mono HB.out.size))⟩)
    have Cy:=qd (show n-(i+1)<n-i by omega);have HJ:=qd (Nat.succ_le_of_lt hlt);have c2:=aA HB.out oC.out;have cv:=R1.out;have iB:fb<wc.heap.size:=Nat.lt_of_lt_of_le Rb.out HB.out.size;have hgB:gB<wc.heap.size:=ab1 cv;clear hr1 hr2 hp hz HO HB kY r0 HOl eG;go_upto_region 8 with fail;refine rT (fun(w':World)=>w'.cell? ⟨fb,2,none⟩=some (.slice (some ⟨gB,oB,none⟩) n d)∧w'.cell? ⟨gB,oB+i,none⟩=some (.int .u64 (q.2:Int))) [] ?_;have hHeld:=(⟨c2,cv⟩:_∧_);refine vW 1 rfl ?_;refine vW 2 rfl ?_;refine vW 3 rfl ?_;refine vW 5 rfl ?_;refine vW 6 rfl ?_;refine vW 7 rfl ?_;refine vW 8 rfl ?_;refine vT 9 rfl ?_;refine vW 10 rfl ?_;refine vW 11 rfl ?_;refine vT 12 rfl ?_;refine vW 13 rfl ?_;refine vW 16 rfl ?_;refine vW 17 rfl ?_;refine vW 18 rfl ?_;have hr0:bB wc.heap.size 38 2 wc wc.drew [none,none]:=⟨(Below.refl _ _).drew,Nat.le_refl _,fun i r h=>by rcases i with _|_|i<;>simp at h,fun i j r s _ h=>by rcases i with _|_|i<;>simp at h⟩;have hC:∀v:World,Below wc.heap.size wc v→(fun(w':World)=>w'.cell? ⟨fb,2,none⟩=some (.slice (some ⟨gB,oB,none⟩) n d)∧w'.cell? ⟨gB,oB+i,none⟩=some (.int .u64 (q.2:Int))) v:=fun v hv=>⟨(hv.cell iB).trans c2,(hv.cell hgB).trans cv⟩;refine aaT fun WW bq=> ?_
    have J7:∀(oD:Nat) (wL:Value) (g47:Nat) (iN:Value) (x52:Value) (v:World),bB wc.heap.size 38 2 wc v [some ⟨x52,(((0+p)+1)+z),((((#[]:Array Value).toList++(O.flatMap aM).take (p*2))++(#[.int .u64 (q.1:Int),.int .u64 (q.2:Int)]:Array Value).toList)++(O.flatMap aM).drop (p*2))⟩,none]→WW 1 #[true,true,true,true,true,true,true,true,true,true,true,true,true,true,true,true,true,true,true,true,false] ⟨wK w fb n c d i p z gA oA gB oB cO AO X q u18 u19 u20 u21 u22 u23 u24 u25 u26 u27 u28 u29 u30 u31 u32 u53 (.slice (some ⟨oD,0,none⟩) 0 0) wL (.slice (some ⟨g47,0,none⟩) 1 1) iN x52,[]⟩ v:=by
     intro oD wL g47 iN x52 v hr;refine inT bq ?_;unfold wK;have o0:=hr.own 0 _ rfl;have qE:=hr.below;simp only at o0;refine p9 (i:=20) (o:=⟨some 3,_,_,_,_,_⟩) rfl (by kernel_rfl) (fun Kn hK=> ?_);go_simp;refine hK.out _ _ (fun _=>hC _ qE) ?_;clear hK Kn
     try simp only[pt]
     refine aY (by kernel_rfl) ?_ _;have aaV:=qd (PI.out v x52 qE o0);clear o0 qE hr;go_wp2;go_roundw
     case measure=>simp[intOf];exact Cy.out
     exact⟨i+1,HJ.out,rfl,aaV.out.1,aaV.out.2⟩
    have QU:∀(oD:Nat) (wL:Value) (g47:Nat) (iN:Value) (v:World),bB wc.heap.size 38 2 wc v [some ⟨iN,((0+p)+1),(((#[]:Array Value).toList++(O.flatMap aM).take (p*2))++(#[.int .u64 (q.1:Int),.int .u64 (q.2:Int)]:Array Value).toList)⟩,none]→WW 2 #[true,true,true,true,true,true,true,true,true,true,true,true,true,true,true,true,true,true,true,false,false] ⟨wK w fb n c d i p z gA oA gB oB cO AO X q u18 u19 u20 u21 u22 u23 u24 u25 u26 u27 u28 u29 u30 u31 u32 u53 (.slice (some ⟨oD,0,none⟩) 0 0) wL (.slice (some ⟨g47,0,none⟩) 1 1) iN u52,[]⟩ v:=by
     intro oD wL g47 iN v hr;refine inT bq ?_;unfold wK;refine eU (is:=[19]) (by kernel_rfl) (by simp) ⟨⟨⟨some 52,_,_,_,_,_⟩,rfl,fun Kn hK=> ?_⟩,trivial⟩
     ·refine dN (by rfl) (by rfl) Cm (hr.own 0 _ rfl) (by rfl) (by rfl) ((HD.out.below hr.below).more (Nat.le_trans hr.base hr.below.size)) (one_sub (List.drop_sublist _ _)) (by first|omega|(simp;omega)) (Nat.le_trans hr.base hr.below.size) ?_;intro v4 w4 fO hg4;have hn:=hr.grow 0 rfl hg4 fO;refine hK.out _ _ (fun _=>hC _ hn.below) ?_
      try simp only[pt]
      exact outT bq (J7 oD wL g47 iN _ _ hn)
    have P9:∀(oD:Nat) (wL:Value) (g47:Nat) (v:World),bB wc.heap.size 38 2 wc v [some ⟨wL,(0+p),((#[]:Array Value).toList++(O.flatMap aM).take (p*2))⟩,some ⟨.slice (some ⟨g47,0,none⟩) 1 1,1,(#[.int .u64 (q.1:Int),.int .u64 (q.2:Int)]:Array Value).toList⟩]→WW 3 #[true,true,true,true,true,true,true,true,true,true,true,true,true,true,true,false,true,true,true,false,false] ⟨wK w fb n c d i p z gA oA gB oB cO AO X q u18 u19 u20 u21 u22 u23 u24 u25 u26 u27 u28 u29 u30 u31 u32 u53 (.slice (some ⟨oD,0,none⟩) 0 0) wL (.slice (some ⟨g47,0,none⟩) 1 1) u48 u52,[]⟩ v:=by
     intro oD wL g47 v hr;refine inT bq ?_;unfold wK;refine eU (is:=[15]) (by kernel_rfl) (by simp) ⟨⟨⟨some 48,_,_,_,_,_⟩,rfl,fun Kn hK=> ?_⟩,trivial⟩
     ·refine dN (by rfl) (by rfl) Cm (hr.own 0 _ rfl) (by rfl) (by rfl) (hr.reads 1 rfl rfl) (by rfl) (by first|omega|(simp;omega)) (Nat.le_trans hr.base hr.below.size) ?_;intro v4 w4 fO hg4;have hn:=hr.grow 0 rfl hg4 fO;replace hn:=hn.drop 1;refine hK.out _ _ (fun _=>hC _ hn.below) ?_
      try simp only[pt]
      exact outT bq (QU oD wL g47 _ _ hn)
    have ad5:∀(oD:Nat) (wL:Value) (v:World),bB wc.heap.size 38 2 wc v [some ⟨wL,(0+p),((#[]:Array Value).toList++(O.flatMap aM).take (p*2))⟩,none]→WW 4 #[true,true,true,true,true,true,true,true,true,true,true,true,true,true,false,false,true,true,true,false,false] ⟨wK w fb n c d i p z gA oA gB oB cO AO X q u18 u19 u20 u21 u22 u23 u24 u25 u26 u27 u28 u29 u30 u31 u32 u53 (.slice (some ⟨oD,0,none⟩) 0 0) wL u47 u48 u52,[]⟩ v:=by
     intro oD wL v hr;refine inT bq ?_;unfold wK;refine eU (is:=[14]) (by kernel_rfl) (by simp) ⟨⟨⟨some 47,_,_,_,_,_⟩,rfl,fun Kn hK=> ?_⟩,trivial⟩
     ·have hn:=hr.new 1 #[.int .u64 (q.1:Int),.int .u64 (q.2:Int)] 1 rfl (by decide);go_simp;refine hK.out _ _ (fun _=>hC _ hn.below) ?_
      try simp only[pt]
      exact outT bq (P9 oD wL _ _ hn)
    have XU:∀(oD:Nat) (g47:Nat) (v:World),bB wc.heap.size 38 2 wc v [some ⟨.slice (some ⟨oD,0,none⟩) 0 0,0,(#[]:Array Value).toList⟩,some ⟨.slice (some ⟨g47,0,none⟩) 1 1,1,(#[.int .u64 (q.1:Int),.int .u64 (q.2:Int)]:Array Value).toList⟩]→WW 4 #[true,true,true,true,false,true,true,true,true,true,true,true,true,true,true,false,true,true,true,false,false] ⟨wK w fb n c d i p z gA oA gB oB cO AO X q u18 u19 u20 u21 u22 u23 u24 u25 u26 u27 u28 u29 u30 u31 u32 u53 (.slice (some ⟨oD,0,none⟩) 0 0) u37 (.slice (some ⟨g47,0,none⟩) 1 1) u48 u52,[]⟩ v:=by
     intro oD g47 v hr;refine inT bq ?_;unfold wK;refine eU (is:=[4]) (by kernel_rfl) (by simp) ⟨⟨⟨some 37,_,_,_,_,_⟩,rfl,fun Kn hK=> ?_⟩,trivial⟩
     ·refine dN (by rfl) (by rfl) Cm (hr.own 0 _ rfl) (by rfl) (by rfl) ((HT.out.below hr.below).more (Nat.le_trans hr.base hr.below.size)) (one_sub (List.take_sublist _ _)) (by first|omega|(simp;omega)) (Nat.le_trans hr.base hr.below.size) ?_;intro v4 w4 fO hg4;have hn:=hr.grow 0 rfl hg4 fO;refine hK.out _ _ (fun _=>hC _ hn.below) ?_
      try simp only[pt]
      exact outT bq (P9 oD _ g47 _ hn)
    have XM:∀(oD:Nat) (v:World),bB wc.heap.size 38 2 wc v [some ⟨.slice (some ⟨oD,0,none⟩) 0 0,0,(#[]:Array Value).toList⟩,none]→WW 5 #[true,true,true,true,false,true,true,true,true,true,true,true,true,true,false,false,true,true,true,false,false] ⟨wK w fb n c d i p z gA oA gB oB cO AO X q u18 u19 u20 u21 u22 u23 u24 u25 u26 u27 u28 u29 u30 u31 u32 u53 (.slice (some ⟨oD,0,none⟩) 0 0) u37 u47 u48 u52,[]⟩ v:=by
     intro oD v hr;refine inT bq ?_;unfold wK;refine eU (is:=[4,14]) (by kernel_rfl) (by simp) ⟨⟨⟨some 37,_,_,_,_,_⟩,rfl,fun Kn hK=> ?_⟩,⟨⟨some 47,_,_,_,_,_⟩,rfl,fun Kn hK=> ?_⟩,trivial⟩
     ·refine dN (by rfl) (by rfl) Cm (hr.own 0 _ rfl) (by rfl) (by rfl) ((HT.out.below hr.below).more (Nat.le_trans hr.base hr.below.size)) (one_sub (List.take_sublist _ _)) (by first|omega|(simp;omega)) (Nat.le_trans hr.base hr.below.size) ?_;intro v4 w4 fO hg4;have hn:=hr.grow 0 rfl hg4 fO;refine hK.out _ _ (fun _=>hC _ hn.below) ?_
      try simp only[pt]
      exact outT bq (ad5 oD _ _ hn)
     ·have hn:=hr.new 1 #[.int .u64 (q.1:Int),.int .u64 (q.2:Int)] 1 rfl (by decide);go_simp;refine hK.out _ _ (fun _=>hC _ hn.below) ?_
      try simp only[pt]
      exact outT bq (XU oD _ _ hn)
    have ae0:∀(g47:Nat) (v:World),bB wc.heap.size 38 2 wc v [none,some ⟨.slice (some ⟨g47,0,none⟩) 1 1,1,(#[.int .u64 (q.1:Int),.int .u64 (q.2:Int)]:Array Value).toList⟩]→WW 5 #[false,true,true,true,false,true,true,true,true,true,true,true,true,true,true,false,true,true,true,false,false] ⟨wK w fb n c d i p z gA oA gB oB cO AO X q u18 u19 u20 u21 u22 u23 u24 u25 u26 u27 u28 u29 u30 u31 u32 u53 u33 u37 (.slice (some ⟨g47,0,none⟩) 1 1) u48 u52,[]⟩ v:=by
     intro g47 v hr;refine inT bq ?_;unfold wK;refine eU (is:=[0]) (by kernel_rfl) (by simp) ⟨⟨⟨some 33,_,_,_,_,_⟩,rfl,fun Kn hK=> ?_⟩,trivial⟩
     ·have hn:=hr.new 0 #[] 0 rfl (by decide);go_simp;refine hK.out _ _ (fun _=>hC _ hn.below) ?_
      try simp only[pt]
      exact outT bq (XU _ g47 _ hn)
    have XM:∀(v:World),bB wc.heap.size 38 2 wc v [none,none]→WW 6 #[false,true,true,true,false,true,true,true,true,true,true,true,true,true,false,false,true,true,true,false,false] ⟨wK w fb n c d i p z gA oA gB oB cO AO X q u18 u19 u20 u21 u22 u23 u24 u25 u26 u27 u28 u29 u30 u31 u32 u53 u33 u37 u47 u48 u52,[]⟩ v:=by
     intro v hr;refine inT bq ?_;unfold wK;refine eU (is:=[0,14]) (by kernel_rfl) (by simp) ⟨⟨⟨some 33,_,_,_,_,_⟩,rfl,fun Kn hK=> ?_⟩,⟨⟨some 47,_,_,_,_,_⟩,rfl,fun Kn hK=> ?_⟩,trivial⟩
     ·have hn:=hr.new 0 #[] 0 rfl (by decide);go_simp;refine hK.out _ _ (fun _=>hC _ hn.below) ?_
      try simp only[pt]
      exact outT bq (XM _ _ hn)
     ·have hn:=hr.new 1 #[.int .u64 (q.1:Int),.int .u64 (q.2:Int)] 1 rfl (by decide);go_simp;refine hK.out _ _ (fun _=>hC _ hn.below) ?_
      try simp only[pt]
      exact outT bq (ae0 _ _ hn)
    exact adA (XM _ hr0) (by kernel_rfl) (by kernel_rfl) (by rfl)
  ·obtain rfl:i=n:=by omega
   have hlt':¬(i:Int)<(i:Int):=by omega
   have hF:=HO.out;rw[List.take_of_length_le (by have:=HN.out;omega)]at hF;have HF:=qd hF;clear hF HO c1A;go_wp2;go_ret;exact⟨_,rfl,HF.out,HB.out⟩
end
section
variable {w w' wr : World} {fa fb ob pb : Nat} {a b out : PL}
def fM (p:Int)(a b out:PL)(k:Nat):PL:=match aS a k,(if 1≤p∧p≤6 then aS b k else none)with
 |some x,none=>gU 1073741824 out k x
 |none,some y=>gU 1073741824 out k y
 |some x,some y=>if p=6 then out else gU 1073741824 out k (qw p x y)
 |none,none=>out
theorem F9 (p:Int)(a b out:PL)(k:Nat):(fM p a b out k).length≤out.length+1:=by
 unfold fM;split
 ·exact yO _ _ _ _
 ·exact yO _ _ _ _
 ·split
  ·omega
  ·exact yO _ _ _ _
 ·omega
structure vV (w wr:World)(ob pb fa fb:Nat)(out:PL):Prop where
 below:Below w.heap.size w wr
 aah:oI wr w.heap.size ob 1073741824 out
 row:aj wr pb 25 #[.pointer (some ⟨fa,0,none⟩),.pointer (some ⟨fb,0,none⟩)]
 far:w.heap.size≤ob∧pb≠ob
theorem vV.put {out':PL}(h:vV w wr ob pb fa fb out)(ho:oI w' w.heap.size ob 1073741824 out')(hm:Mod [ob] wr w'):vV w w' ob pb fa fb out':=
 ⟨h.below.trans (hm.below (fun q hq=>by rw[List.mem_singleton.1 hq];exact h.far.1) h.below.size),ho,h.row.mod hm (by simpa using h.far.2),h.far⟩
theorem vV.grow (h:vV w wr ob pb fa fb out)(hb:Below wr.heap.size wr w'):vV w w' ob pb fa fb out:=
 ⟨h.below.trans (hb.mono h.below.size),h.aah.below hb,h.row.below hb h.row.lt,h.far⟩
def bJ (p:Int)(a b L out:PL):PL:=L.foldl (fun t q=>fM p a b t q.1) out
theorem l9 (p:Int)(a b:PL):∀(L out:PL),(bJ p a b L out).length≤out.length+L.length
 | [],_=>by simp[bJ]
 |q::L,out=>by
  have h1:=l9 p a b L (fM p a b out q.1);have h2:=F9 p a b out q.1;unfold bJ at h1⊢;rw[List.foldl_cons,List.length_cons];omega
theorem QV {p:Int}{L:PL}{i:Nat}{q:Nat×Nat}(hq:L[i]?=some q):bJ p a b (L.take (i+1)) out=fM p a b (bJ p a b (L.take i) out) q.1:=by
 unfold bJ;rw[List.take_add_one,hq,List.foldl_append];rfl
def afy (a b:PL)(j:Nat):PL:=if j=0 then a else b
def uX (p:Int)(a b:PL)(j:Nat):PL:=if j=0 then []else if j=1 then bJ p a b a []else bJ p a b b (bJ p a b a [])
theorem aai {Ma Mb:Nat}{base base':Nat}(ha:oI w base fa Ma a)(hb:oI w base' fb Mb b)(hla:a.length≤200)(hlb:b.length≤200)(h64:(∀k x,aS a k=some x→x<18446744073709551616)∧∀k x,aS b k=some x→x<18446744073709551616)(p:Int):
  Calls Tryz.prog 8 #[.pointer (some ⟨fa,0,none⟩),.pointer (some ⟨fb,0,none⟩),.int .i64 p] w fun y w'=>∃v,y= .returned v∧w'.ownsRow w.heap.size 38 2 v (bJ p a b b (bJ p a b a [])).length ((oh (bJ p a b b (bJ p a b a []))).flatMap aM)∧Below w.heap.size w w':=by
 have HA:=qd (And.intro ha hb);have iC:=qd (And.intro hla hlb);have PV:=qd h64
 have hS0:vV w ((w.alloc (.cells #[.int .i64 1073741824,.slice none 0 0,.slice none 0 0] 57)).alloc (.cells #[.pointer (some ⟨fa,0,none⟩),.pointer (some ⟨fb,0,none⟩)] 25)) w.heap.size (w.heap.size+1) fa fb (uX p a b 0):=by
  have hB:=(aj.new w 57 #[.int .i64 1073741824,.slice none 0 0,.slice none 0 0]).alloc (.cells #[.pointer (some ⟨fa,0,none⟩),.pointer (some ⟨fb,0,none⟩)] 25);have hP:=aj.new (w.alloc (.cells #[.int .i64 1073741824,.slice none 0 0,.slice none 0 0] 57)) 25 #[.pointer (some ⟨fa,0,none⟩),.pointer (some ⟨fb,0,none⟩)];simp only[World.size_alloc]at hP;exact⟨((Below.refl w.heap.size w).alloc (Nat.le_refl _) _).alloc (by simp) _,⟨none,0,none,0,hB,⟨rfl,.inl ⟨rfl,rfl⟩⟩,⟨rfl,.inl ⟨rfl,rfl⟩⟩⟩,hP,Nat.le_refl _,by omega⟩
 have HS0:=qd hS0;clear ha hb hla hlb hS0 h64;go_in;go_upto_region 3 with fail;refine bU (F:=fun v=>vV w v w.heap.size (w.heap.size+1) fa fb (uX p a b 0)) HS0.out ?_;rintro w1 hS1;obtain⟨ob,lQ⟩:∃ob,ob=w.heap.size:=⟨_,rfl⟩;obtain⟨pb,hpb⟩:∃pb,pb=w.heap.size+1:=⟨_,rfl⟩;rw[←hpb]at hS1⊢;have HS:=qd (show vV w w1 ob pb fa fb (uX p a b 0)from by rw[lQ];exact hS1);rw[←lQ];clear hS1 HS0 lQ hpb;go_wp2;go_loopw [9,11,12,13,14,15,16,23,54,64,74,80] (fun _ _ _ _ _ _ _ v23 _ _ _ _ wr=>∃j:Nat,j≤2∧v23= .int .i64 (j:Int)∧Hid (vV w wr ob pb fa fb (uX p a b j))) (fun _ _ _ _ _ _ _ v23 _ _ _ _ _=>2-(intOf v23).toNat)
 case atStart=>exact⟨0,by omega,rfl,HS⟩
 case round=>
  clear HS;obtain⟨j,hj,rfl,HS⟩:=hrel;by_cases hlt:j<2
  ·obtain⟨L,fl,Ml,bl,hcl,hfl,hLl,hnx⟩:∃(L:PL) (fl Ml bl:Nat),wr.cell? ⟨pb,j,none⟩=some (.pointer (some ⟨fl,0,none⟩))∧oI w bl fl Ml L∧L.length≤200∧uX p a b (j+1)=bJ p a b L (uX p a b j):=by
    have hc:=HS.out.row.cell j
    have:j=0∨j=1:=by omega
    rcases this with rfl|rfl
    ·exact⟨a,fa,Ma,base,hc,HA.out.1,iC.out.1,rfl⟩
    ·exact⟨b,fb,Mb,base',hc,HA.out.2,iC.out.2,rfl⟩
   have hlt':(j:Int)<2:=by omega
   have hj0:(0:Int)≤(j:Int):=by omega
   have hwj:IntKind.i64.wrap ((j:Int)+1)=((j+1:Nat):Int):=by rw[IntKind.wrap_i64];omega
   obtain⟨A,c,B,d,hB1,hK1,_⟩:=hfl;have c1:wr.cell? ⟨fl,1,none⟩=some (.slice A L.length c):=aA HS.out.below (by have:=hB1.cell 1;simpa using this);have HK:=qd (Reads.eO hK1);obtain⟨m,hm⟩:∃m,m=L.length:=⟨_,rfl⟩;rw[←hm]at c1;have HMm:=qd hm;have gT:=qd hnx;obtain⟨O,hO⟩:∃O,O=uX p a b j:=⟨_,rfl⟩;rw[←hO]at gT HS
   have hOl:O.length≤200:=by
    have h1:=l9 p a b a [];have:=iC.out
    have h2:j=0∨j=1:=by omega
    rcases h2 with rfl|rfl
    ·rw[hO];simp[uX]
    ·rw[hO];simp[uX]at h1⊢;omega
   have hm2:m≤200:=by omega
   have HMj:=qd (show 2-(j+1)<2-j by omega);have HJj:=qd (show j+1≤2 by omega);clear hB1 hK1 hm hnx hO;have iK:=qd (show vV w wr ob pb fa fb (bJ p a b (L.take 0) O)from HS.out);go_wp2;go_loopw [11,12,13,14,15,16,32,54,64,74,80] (fun _ _ _ _ _ _ v32 _ _ _ _ wy=>∃i:Nat,i≤m∧v32= .int .i64 (i:Int)∧Hid (vV w wy ob pb fa fb (bJ p a b (L.take i) O))) (fun _ _ _ _ _ _ v32 _ _ _ _ _=>m-(intOf v32).toNat)
   case atStart=>exact⟨0,Nat.zero_le _,rfl,iK⟩
   case round=>
    clear HS iK hcl c1;obtain⟨i,hi,rfl,HS2⟩:=hrel;by_cases hlt2:i<m
    ·have TA:(i:Int)<(m:Int):=by omega
     have hi0:(0:Int)≤(i:Int):=by omega
     have hwi:IntKind.i64.wrap ((i:Int)+1)=((i+1:Nat):Int):=by rw[IntKind.wrap_i64];omega
     obtain⟨q,hq⟩:∃q,L[i]?=some q:=⟨_,List.getElem?_eq_getElem (by have:=HMm.out;omega)⟩;obtain⟨g,o,hA,_,k0⟩:=Jl HK.out hq;subst hA;have r0:wr.cell? ⟨g,o+i,none⟩=some (.int .u64 (q.1:Int)):=aA HS2.out.below k0;have fZ:=qd (QV (p:=p) (a:=a) (b:=b) (out:=O) hq);obtain⟨O',WL⟩:∃O',O'=bJ p a b (L.take i) O:=⟨_,rfl⟩;rw[←WL]at fZ HS2
     have adE:O'.length≤1000:=by
      have:=l9 p a b (L.take i) O;rw[List.length_take,←WL]at this;omega
     have Ob:=qd (Sv (HA.out.1.below HS2.out.below) (by have:=iC.out.1;omega) q.1);have HGb:=qd (Sv (HA.out.2.below HS2.out.below) (by have:=iC.out.2;omega) q.1)
     have jE:=qd (fun(W:World) (hbW:Below wr.heap.size wr W) (v:Nat)=>show Calls Tryz.prog 18 #[.pointer (some ⟨ob,0,none⟩),.int .u64 (q.1:Int),.int .u64 (v:Int)] W (fun y w'=>∃r:Int,y= .returned (.int .i64 r)∧vV w w' ob pb fa fb (gU 1073741824 O' q.1 v))from
      (adB (HS2.out.grow hbW).aah (HS2.out.grow hbW).below.size adE q.1 v).mono (by
       rintro y w' ⟨r,rfl,h1,h2⟩
       exact⟨r,rfl,(HS2.out.grow hbW).put h1 h2⟩))
     have HM:=qd (show m-(i+1)<m-i by omega);have HJ:=qd (Nat.succ_le_of_lt hlt2);obtain⟨x,hx⟩:∃x,x=aS a q.1:=⟨_,rfl⟩;obtain⟨y0,hy⟩:∃y,y=aS b q.1:=⟨_,rfl⟩;rw[←hx]at Ob;rw[←hy]at HGb;have zA:=qd hx.symm;have CU:=qd hy.symm;clear hq k0 hx hy WL adE;go_wp2_with fail;refine Ob.out.mono ?_;rintro y wq ⟨rfl,rfl⟩;clear Ob r0;go_wp2_with fail;refine HGb.out.mono ?_;rintro y wq ⟨rfl,rfl⟩;clear HGb;by_cases hr:1≤p∧p≤6
     ·have hr1:¬p<1:=by omega
      have hr2:¬6<p:=by omega
      cases x with
      |none=>
       cases y0 with
       |none=>
        have HEq:=qd (show bJ p a b (L.take (i+1)) O=O' from by rw[fZ.out];unfold fM;rw[zA.out,CU.out,if_pos hr];try rfl);have HU:=qd (show vV w wr ob pb fa fb (bJ p a b (L.take (i+1)) O)from by rw[HEq.out];exact HS2.out);clear jE HEq HS2;go_wp2;go_roundw
        case measure=>simp[intOf];have:=HM.out;omega
        exact⟨i+1,HJ.out,rfl,HU⟩
       |some y0=>
        have HEq:=qd (show bJ p a b (L.take (i+1)) O=gU 1073741824 O' q.1 y0 from by rw[fZ.out];unfold fM;rw[zA.out,CU.out,if_pos hr];try rfl);go_wp2_with fail;refine(jE.out _ (Below.refl _ _) y0).mono ?_;rintro y w9 ⟨r,rfl,hU⟩;rw[←HEq.out]at hU;have HU:=qd hU;clear hU jE HEq HS2;go_wp2;go_roundw
        case measure=>simp[intOf];have:=HM.out;omega
        exact⟨i+1,HJ.out,rfl,HU⟩
      |some x=>
       cases y0
       case' none=>
        have HEq:=qd (show bJ p a b (L.take (i+1)) O=gU 1073741824 O' q.1 x from by rw[fZ.out];unfold fM;rw[zA.out,CU.out,if_pos hr];try rfl);go_wp2_with fail;refine(jE.out _ (Below.refl _ _) x).mono ?_
       case' some y0=>
        have hs:IntKind.u64.wrap ((x:Int)+(y0:Int))=(((x+y0) % 18446744073709551616:Nat):Int):=by
         have:=PV.out.1 _ _ zA.out;have:=PV.out.2 _ _ CU.out;rw[IntKind.wrap_u64];omega
        have hpc:p=1∨p=2∨p=3∨p=4∨p=5∨p=6:=by omega
        rcases hpc with rfl|rfl|rfl|rfl|rfl|rfl
        focus
         have HEq:=qd (show bJ 1 a b (L.take (i+1)) O=gU 1073741824 O' q.1 x from by rw[fZ.out];unfold fM;rw[zA.out,CU.out,if_pos hr];rfl);go_wp2_with fail;refine(jE.out _ (by first|exact(Below.refl _ _).alloc (Nat.le_refl _) _|exact((Below.refl _ _).alloc (Nat.le_refl _) _).alloc (by simp) _) x).mono ?_
        rotate_left
        focus
         have HEq:=qd (show bJ 2 a b (L.take (i+1)) O=gU 1073741824 O' q.1 y0 from by rw[fZ.out];unfold fM;rw[zA.out,CU.out,if_pos hr];rfl);go_wp2_with fail;refine(jE.out _ (by first|exact(Below.refl _ _).alloc (Nat.le_refl _) _|exact((Below.refl _ _).alloc (Nat.le_refl _) _).alloc (by simp) _) y0).mono ?_
        rotate_left
        focus
         have HEq:=qd (show bJ 3 a b (L.take (i+1)) O=gU 1073741824 O' q.1 ((x+y0) % 18446744073709551616)from by rw[fZ.out];unfold fM;rw[zA.out,CU.out,if_pos hr];rfl);go_wp2_with fail;refine(jE.out _ (by first|exact(Below.refl _ _).alloc (Nat.le_refl _) _|exact((Below.refl _ _).alloc (Nat.le_refl _) _).alloc (by simp) _) ((x+y0) % 18446744073709551616)).mono ?_
        rotate_left
        focus
         by_cases hgt:y0<x
         focus
          have aaj:(y0:Int)<(x:Int):=by omega
          have HEq:=qd (show bJ 4 a b (L.take (i+1)) O=gU 1073741824 O' q.1 y0 from by rw[fZ.out];unfold fM;rw[zA.out,CU.out,if_pos hr];show gU 1073741824 O' q.1 (min x y0)=_;rw[show min x y0=y0 by omega]);go_wp2_with fail;refine(jE.out _ (by first|exact(Below.refl _ _).alloc (Nat.le_refl _) _|exact((Below.refl _ _).alloc (Nat.le_refl _) _).alloc (by simp) _) y0).mono ?_
         rotate_left
         focus
          have aaj:¬(y0:Int)<(x:Int):=by omega
          have HEq:=qd (show bJ 4 a b (L.take (i+1)) O=gU 1073741824 O' q.1 x from by rw[fZ.out];unfold fM;rw[zA.out,CU.out,if_pos hr];show gU 1073741824 O' q.1 (min x y0)=_;rw[show min x y0=x by omega]);go_wp2_with fail;refine(jE.out _ (by first|exact(Below.refl _ _).alloc (Nat.le_refl _) _|exact((Below.refl _ _).alloc (Nat.le_refl _) _).alloc (by simp) _) x).mono ?_
        rotate_left 2
        focus
         by_cases hgt:y0<x
         focus
          have aaj:(y0:Int)<(x:Int):=by omega
          have HEq:=qd (show bJ 5 a b (L.take (i+1)) O=gU 1073741824 O' q.1 x from by rw[fZ.out];unfold fM;rw[zA.out,CU.out,if_pos hr];show gU 1073741824 O' q.1 (max x y0)=_;rw[show max x y0=x by omega]);go_wp2_with fail;refine(jE.out _ (by first|exact(Below.refl _ _).alloc (Nat.le_refl _) _|exact((Below.refl _ _).alloc (Nat.le_refl _) _).alloc (by simp) _) x).mono ?_
         rotate_left
         focus
          have aaj:¬(y0:Int)<(x:Int):=by omega
          have HEq:=qd (show bJ 5 a b (L.take (i+1)) O=gU 1073741824 O' q.1 y0 from by rw[fZ.out];unfold fM;rw[zA.out,CU.out,if_pos hr];show gU 1073741824 O' q.1 (max x y0)=_;rw[show max x y0=y0 by omega]);go_wp2_with fail;refine(jE.out _ (by first|exact(Below.refl _ _).alloc (Nat.le_refl _) _|exact((Below.refl _ _).alloc (Nat.le_refl _) _).alloc (by simp) _) y0).mono ?_
        rotate_left 2
        ·have HEq:=qd (show bJ 6 a b (L.take (i+1)) O=O' from by rw[fZ.out];unfold fM;rw[zA.out,CU.out,if_pos hr];rfl);have HU:=qd (show vV w wr ob pb fa fb (bJ 6 a b (L.take (i+1)) O)from by rw[HEq.out];exact HS2.out);clear jE HEq HS2;go_wp2;go_roundw
         case measure=>simp[intOf];have:=HM.out;omega
         exact⟨i+1,HJ.out,rfl,HU⟩
       all_goals
        rintro y w9 ⟨r,rfl,hU⟩;rw[←HEq.out]at hU;have HU:=qd hU;clear hU jE HEq HS2;go_wp2;go_roundw
        case measure=>simp[intOf];have:=HM.out;omega
        exact⟨i+1,HJ.out,rfl,HU⟩
     ·have hrr:p<1∨(¬p<1∧6<p):=by omega
      cases x with
      |none=>
       have HEq:=qd (show bJ p a b (L.take (i+1)) O=O' from by rw[fZ.out];unfold fM;rw[zA.out,if_neg hr];try rfl);rcases hrr with h1|⟨h1,h2⟩
       focus
        skip
       rotate_left
       focus
        skip
       all_goals
        have HU:=qd (show vV w wr ob pb fa fb (bJ p a b (L.take (i+1)) O)from by rw[HEq.out];exact HS2.out);clear jE HEq HS2;go_wp2;go_roundw
        case measure=>simp[intOf];have:=HM.out;omega
        exact⟨i+1,HJ.out,rfl,HU⟩
      |some x=>
       have HEq:=qd (show bJ p a b (L.take (i+1)) O=gU 1073741824 O' q.1 x from by rw[fZ.out];unfold fM;rw[zA.out,if_neg hr];try rfl);rcases hrr with h1|⟨h1,h2⟩
       focus
        skip
       rotate_left
       focus
        skip
       all_goals
        go_wp2_with fail;refine(jE.out _ (Below.refl _ _) x).mono ?_;rintro y w9 ⟨r,rfl,hU⟩;rw[←HEq.out]at hU;have HU:=qd hU;clear hU jE HEq HS2;go_wp2;go_roundw
        case measure=>simp[intOf];have:=HM.out;omega
        exact⟨i+1,HJ.out,rfl,HU⟩
    ·obtain rfl:i=m:=by omega
     have TA:¬(i:Int)<(i:Int):=by omega
     have kZ:=qd (show vV w _ ob pb fa fb (uX p a b (j+1))from by
      have h1:=HS2.out;rw[List.take_of_length_le (by have:=HMm.out;omega),←gT.out]at h1
      exact h1)
     clear HS2;go_wp2;go_roundw
     case measure=>simp[intOf];have:=HMj.out;omega
     exact⟨j+1,HJj.out,rfl,kZ⟩
  ·obtain rfl:j=2:=by omega
   have hF:oI _ w.heap.size ob 1073741824 (bJ p a b b (bJ p a b a [])):=HS.out.aah
   have hln:(bJ p a b b (bJ p a b a [])).length≤1000:=by
    have h1:=l9 p a b a [];have h2:=l9 p a b b (bJ p a b a []);have:=iC.out;simp at h1;omega
   have HSo:=qd (XT hF hln);clear hF hln;go_wp2_with fail;refine HSo.out.mono ?_;rintro y w9 ⟨v,rfl,ho,qE⟩;have HF:=qd (And.intro (pX ho HS.out.below.size) (HS.out.below.trans (qE.mono HS.out.below.size)));clear ho qE HSo HS;go_wp2;go_ret;exact⟨_,rfl,HF.out.1,HF.out.2⟩
end
end Go.Proofs.YtbfpfgfgfjhpfaaGreatDoor
