/- A function's Pairs, and Same, by their contracts. No statement of the claim. -/
import Derived.Test.YtkkibocdfijnhaaGreatDoorPlD
import Derived.Test.YtkkibocdfijnhaaGreatDoorLaneP
import Derived.Laws.StructEq
namespace Go.Proofs.YtkkibocdfijnhaaGreatDoor
set_option maxRecDepth 100000
set_option maxHeartbeats 4000000
open Go.RowKit Go.Shelf bV IC
variable {B B' base c c' : Nat} {w : World} {l m : PL} {A A' : Option Addr}
theorem Zl {v:Value}(ho:w.ownsRow base 37 2 v l.length (l.flatMap eu))(hn:l.length≤100000):
  Calls Tryz.prog 44 #[v] w fun y w'=>∃v',y= .returned v'∧w'.ownsRow w.heap.size 37 2 v' l.length (l.flatMap eu)∧Below w.heap.size w w':=by
 have q22:∀(w:World) (a:Option Addr) (n c n' c':Nat),(binOp .eql 32 (.slice a n c) (.slice none n' c')).run Tryz.prog w= .ok (.bool a.isNone) w:=fun w a n c n' c'=>Lib.run_eql_slice_nil w _ _ a n c n' c' Tryz.underlying32
 have mixed:Tryz.prog.follows Departure.mixedOrders=true:=by kernel_rfl
 rcases ho.2 with⟨rfl,h0⟩|⟨g,cap,cur,rfl,hbg,hh,hcap,hmax,hsz,htk⟩
 ·obtain rfl:l=[]:=List.length_eq_zero_iff.1 h0;clear ho h0 hn;go_in;go_wp2;go_ret;exact⟨_,rfl,World.ownsRow_nil _ _ _ _,Below.refl _ _⟩
 ·obtain⟨i0,hi0,hz0,hz1,hz2⟩:=info_parts zu;have HI:=qd (And.intro hi0 (And.intro hz0 (And.intro hz1 hz2)))
  have HC:=qd (show∀(w2:World) (o:Obj),w2=w.alloc o→∀(j:Nat) (u:Value),(l.flatMap eu)[j]?=some u→w2.cell? ((⟨g,0,none⟩:Addr).add j)=some u from by
   rintro w2 o rfl j u hj
   have hadd:(⟨g,0,none⟩:Addr).add j=⟨g,j,none⟩:=by unfold Addr.add;split<;>simp_all
   rw[hadd];refine Lib.cell?_alloc_some _ ?_;show(match w.heap[g]? with|some (.cells cs _ _)=>cs[j]?|_=>none)=_;rw[hh];rw[←htk,List.getElem?_take]at hj;split at hj
   ·simpa using hj
   ·cases hj)
  have H1:=qd (DN l);have HL:=qd (gP l);clear hi0 hz0 hz1 hz2 ho hh htk hsz hmax hbg;go_in;go_wp2_with (at_builtin;refine wpList_append_own _ rfl _ _ 32 rfl w.heap.size 37 i0 _ 2 16 Tryz.underlying32 HI.out.1 HI.out.2.1 HI.out.2.2.1 HI.out.2.2.2 rfl (by omega) _ _ _ rfl (World.ownsRow_made w #[] 0 (Nat.le_refl _) (Nat.zero_le _) (by simp)) ⟨g,0,none⟩ l.length cap (l.flatMap eu) rfl HL.out (HC.out _ _ rfl) H1.out (by unfold maxLen;omega) (by omega) (by simp) ?_;intro v' w1 hown hgrow hnil;have HP:=qd (show w1.ownsRow w.heap.size 37 2 v' l.length (l.flatMap eu)∧Below w.heap.size w w1 from⟨by simpa using hown,((Below.refl _ w).alloc (Nat.le_refl _) _).grown hgrow (by simp) (by intro k hk;cases hk;exact Nat.le_refl _)⟩);clear hown hgrow hnil);go_ret;exact⟨_,rfl,HP.out⟩
theorem Zm {most fb:Nat}{F:List Nat}(h:tK base w fb most F l)(hn:l.length≤100000):
  Calls Tryz.prog 21 #[pQ fb] w fun y w'=>∃v',y= .returned v'∧w'.ownsRow w.heap.size 37 2 v' l.length (l.flatMap eu)∧Below w.heap.size w w':=by
 obtain⟨v,hB,ho,rfl,hb,ha⟩:=h;have HC:=qd (Zl ho hn);obtain⟨A,c,rfl⟩:=bU ho;have c1:=hB.cell 1;simp only[gl]at c1;clear hB ho ha;go_in;go_wp2_with fail;refine HC.out.mono ?_;rintro y w1 ⟨v',rfl,h1,h2⟩;have HP:=qd (And.intro h1 h2);clear h1 h2;go_wp2;go_ret;exact⟨_,rfl,HP.out⟩
theorem WC (x y:Nat×Nat)(W:World):(Op.equalIn 10000 37 (.agg #[nU x.1,nU x.2]) (.agg #[nU y.1,nU y.2])).run Tryz.prog W= .ok (decide (x=y)) W:=by
 have hS:Tryz.prog.underlying 37 =some (.struct (Tryz.prog.fieldsOf 37)):=by kernel_rfl
 have hp:Tryz.prog.stoodInHeld 37 =false:=by kernel_rfl
 rw[show(10000:Nat)=9999+1 from rfl,run_equalIn_agg W 9999 37 _ _ hS hp];simp only[Program.fieldsOf,Tryz.underlying37];go_simp
 by_cases h1:x.1=y.1<;>by_cases h2:x.2=y.2<;>simp[h1,h2,Prod.ext_iff]<;>omega
theorem Zn (hl:Reads w B 2 A l.length (l.flatMap eu))(hm:Reads w B' 2 A' m.length (m.flatMap eu))(hn:l.length≤100000):
  Calls Tryz.prog 22 #[.slice A l.length c,.slice A' m.length c'] w fun y w'=>y= .returned (.bool (decide (l=m)))∧Below w.heap.size w w':=by
 have hgd:Tryz.prog.eqGuardType Tryz.prog.depth 37 =false:=by kernel_rfl
 by_cases hlen:l.length=m.length
 ·rw[←hlen]at hm⊢;have HL:=qd hl;have HM:=qd hm;have HB:=qd (Below.refl w.heap.size w);have HS:=qd (show∀t,t<0→l[t]?=m[t]? from fun t ht=>by omega);obtain⟨r,hr⟩:∃r,r=decide (l=m):=⟨_,rfl⟩;have HR:=qd hr;rw[←hr];clear hl hm hr;go_in;go_wp2;go_loopw [4,5,13] (fun _ _ v13 wr=>∃i:Nat,i≤l.length∧v13=nI i∧Hid (∀t,t<i→l[t]?=m[t]?)∧Hid (Below w.heap.size w wr)) (fun _ _ v13 _=>l.length-(intOf v13).toNat)
  case atStart=>exact⟨0,by omega,rfl,HS,HB⟩
  case round=>
   clear HB HS;obtain⟨i,hi,rfl,HS,HB⟩:=hrel;by_cases hlt:i<l.length
   ·have hlt':(i:Int)<(l.length:Int):=by omega
    have hi0:(0:Int)≤(i:Int):=by omega
    have hwi:IntKind.i64.wrap ((i:Int)+1)=((i+1:Nat):Int):=by rw[IntKind.wrap_i64];omega
    obtain⟨x,hx⟩:∃x,l[i]?=some x:=⟨_,List.getElem?_eq_getElem hlt⟩;obtain⟨y,hy⟩:∃y,m[i]?=some y:=⟨_,List.getElem?_eq_getElem (by omega)⟩;obtain⟨g,off,hA,hgl,hc⟩:=HL.out.2 (by omega);obtain⟨g',off',hA',agj,hc'⟩:=HM.out.2 (by omega);have hcc:∀(b o:Nat) (u:Value),w.cell? ⟨b,o,none⟩=some u→wr.cell? ⟨b,o,none⟩=some u:=fun b o u h=>aA HB.out h;have r0:wr.cell? ⟨g,off+i*2,none⟩=some (nU x.1):=hcc _ _ _ (hc (i*2+0) _ (kM hx (by omega)));have r1:wr.cell? ⟨g,off+i*2+1,none⟩=some (nU x.2):=hcc _ _ _ (hc (i*2+1) _ (kM hx (by omega)));have s0:wr.cell? ⟨g',off'+i*2,none⟩=some (nU y.1):=hcc _ _ _ (hc' (i*2+0) _ (kM hy (by omega)));have s1:wr.cell? ⟨g',off'+i*2+1,none⟩=some (nU y.2):=hcc _ _ _ (hc' (i*2+1) _ (kM hy (by omega)));have heq:=WC x y;subst hA hA';have Ob:=qd (show l.length-(i+1)<l.length-i by omega);have HXY:=qd (And.intro hx hy);clear hc hc' hcc hx hy;obtain⟨q,hq⟩:∃q,q=decide (x=y):=⟨_,rfl⟩;have HQ:=qd hq;rw[←hq]at heq;clear hq;go_upto_region 6 with fail;go_region;refine aZ (F:=fun W=>Below w.heap.size w W) HB.out.drew ?_;intro w2 hb2;have HB2:=qd hb2;clear hb2
    cases q with
    |true=>
     have HS2:=qd (show∀t,t<i+1→l[t]?=m[t]? from fun t ht=>by
      by_cases h:t<i
      ·exact HS.out t h
      ·obtain rfl:t=i:=by omega
       rw[HXY.out.1,HXY.out.2,of_decide_eq_true HQ.out.symm])
     go_wp2;go_roundw
     all_goals first|exact⟨i+1,by omega,rfl,HS2,HB2⟩|(simp[intOf];have:=Ob.out;omega)
    |false=>
     have HN:=qd (show r=false from by
      rw[HR.out];refine decide_eq_false fun e=> ?_;have h1:=of_decide_eq_false HQ.out.symm;have h2:=HXY.out.1;rw[e,HXY.out.2]at h2
      exact h1 (Option.some.inj h2).symm)
     go_wp2;go_ret;exact⟨by rw[HN.out];rfl,HB2.out⟩
   ·obtain rfl:i=l.length:=by omega
    have hlt':¬(l.length:Int)<(l.length:Int):=by omega
    have HN:=qd (show r=true from by
     rw[HR.out];refine decide_eq_true (List.ext_getElem? fun t=> ?_);by_cases h:t<l.length
     ·exact HS.out t h
     ·rw[List.getElem?_eq_none (by omega),List.getElem?_eq_none (by omega)])
    go_wp2;go_ret;exact⟨by rw[HN.out];rfl,HB.out⟩
 ·have hlen':¬(l.length:Int)=(m.length:Int):=by omega
  clear hl hm;rw[show decide (l=m)=false from decide_eq_false (fun e=>hlen (by rw[e]))];go_in;go_wp2;go_ret;exact⟨rfl,Below.refl _ _⟩
theorem aby (hl:Reads w B 2 A l.length (l.flatMap eu))(hm:Reads w B' 2 A' m.length (m.flatMap eu))(hn:l.length≤100000):
  Calls Tryz.prog 9 #[.slice A l.length c,.slice A' m.length c'] w fun y w'=>y= .returned (.bool (decide (l=m)))∧Below w.heap.size w w':=by
 have HE:=qd (Zn (c:=c) (c':=c') hl hm hn);obtain⟨r,hr⟩:∃r,r=decide (l=m):=⟨_,rfl⟩;rw[←hr]at HE⊢;clear hl hm hr;go_in;go_wp2_with fail;refine HE.out.mono ?_;rintro y w1 ⟨rfl,hb1⟩;have HB:=qd hb1;clear hb1;go_wp2;go_ret;exact⟨rfl,HB.out⟩
end Go.Proofs.YtkkibocdfijnhaaGreatDoor
