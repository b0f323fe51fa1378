/- Package fmap: New of a wrong configuration, Add of any. No statement of the claim. -/
import Derived.Test.YtnfjjbpmhcbelaaGreatDoorFqA
import Derived.Test.YtnfjjbpmhcbelaaGreatDoorGaugeA
import Derived.Test.YtnfjjbpmhcbelaaGreatDoorFmD
import Derived.Test.YtnfjjbpmhcbelaaGreatDoorFqP
import Derived.BigQuiet
import Derived.Test.YtnfjjbpmhcbelaaGreatDoorCoG
import Derived.RangeFuncNested
import Derived.RangeFuncBound
import Derived.RangeFuncCalls
import Derived.RangeFuncLeaves
import Derived.RangeFuncBox
import Derived.Shelf.Abstract
import Derived.Shelf.RegionOpen
import Derived.WalkKit
import Derived.OwnWalkIn
import Derived.TacticsInMore
import Derived.LoopNIn
import Derived.LoopIn
import Derived.Maps.RangeWalk
import Derived.Test.YtnfjjbpmhcbelaaGreatDoorMpA
namespace Go.Proofs.YtnfjjbpmhcbelaaGreatDoor
set_option maxRecDepth 100000
set_option maxHeartbeats 4000000
open Go.RowKit dI kM ru Go.Shelf Go.MapKept
section
theorem Py {R:Nat→Option Nat}{n M:Nat}{l:PL}(h:jM R n l)(k v:Nat):jM (qC M R n k v) (qZ M (R k) n) (if noRoom M (R k) n then l else mH l k v):=by
 by_cases hr:noRoom M (R k) n=true
 ·rw[if_pos hr];unfold qC;rw[if_pos hr];unfold noRoom at hr;rw[Bool.and_eq_true]at hr;unfold qZ;rw[hr.2,Bool.or_true,if_pos rfl];exact h
 ·rw[if_neg hr];have h1:=abM h k v
  have h2:qC M R n k v=qA R k (some v):=by unfold qC qA;rw[if_neg hr]
  have h3:qZ M (R k) n=Rz (R k) n:=by
   unfold noRoom at hr;unfold qZ Rz
   cases hk:R k with
   |some u=>rfl
   |none=>
    rw[hk]at hr;simp only[Option.isNone_none,Bool.true_and]at hr;simp[hr]
  rw[h2,h3];exact h1
theorem LA {R:Nat→Option Nat}{n M x v:Nat}(h:oh R)(hx:x<18446744073709551616):oh (qC M R n (aA x) v):=by
 unfold qC;split
 ·exact h
 ·exact GR h hx (some v)
theorem Pz {q:Option Nat}(h:∀z,q=some z→z<18446744073709551616):jT q<18446744073709551616:=by
 cases q with
 |some z=>exact ko (h z rfl)
 |none=>decide
theorem Uf (q:Option Nat):aQ (jT q)=jT q:=by
 cases q with
 |some z=>exact sG z
 |none=>decide
theorem Ug (x:Nat)(hx:x<18446744073709551616)(w:World):Calls Tryz.prog 25 #[.int .u64 (aA x:Int)] w fun e w'=>e= .returned (.tuple #[.int .u64 (aQ x:Int),.bool true])∧Below w.heap.size w w':=by
 have hl:=ko hx;have HF:=qd (fun(W:World)=>show Calls Tryz.prog 38 #[.int .u64 (aQ x:Int)] W (fun e w'=>e= .returned (.int .u64 (aQ x:Int))∧W=w')from by have h:=AU (aQ x) hl W;rw[sG]at h;exact h);have HK:=qd (fun(W:World)=>show Calls Tryz.prog 20 #[.int .u64 (aQ x:Int)] W (fun e w'=>e= .returned (.int .u64 (aA x:Int))∧W=w')from by have h:=mX (aQ x) hl W;rw[show aA (aQ x)=aA x from by unfold aA;rw[sG]]at h;exact h);have hk:=BU hx;have hkl:=Em hx;unfold pV at hk;by_cases c:aA x<9223372036854775808
 focus
  rw[if_pos c]at hk
  have hc:((aA x:Int)<9223372036854775808):=by omega
  have hv:(18446744073709551615:Int)-(aA x:Int)=(aQ x:Int):=by omega
  have hv2:IntKind.u64.wrap (18446744073709551615-(aA x:Int))=(aQ x:Int):=by rw[IntKind.wrap_u64];omega
 rotate_left
 focus
  rw[if_neg c]at hk
  have hc:¬((aA x:Int)<9223372036854775808):=by omega
  have hv:(aA x:Int)-9223372036854775808=(aQ x:Int):=by omega
  have hv2:IntKind.u64.wrap ((aA x:Int)-9223372036854775808)=(aQ x:Int):=by rw[IntKind.wrap_u64];omega
 all_goals
  clear hl hk;go_in;go_wp2_with fail;refine(HF.out _).mono ?_;rintro e w1 ⟨rfl,rfl⟩;go_wp2_with fail;refine(HF.out _).mono ?_;rintro e w1 ⟨rfl,rfl⟩;go_wp2_with fail;refine(HK.out _).mono ?_;rintro e w1 ⟨rfl,rfl⟩;go_wp2;refine bodyPost_ret (v:= .tuple #[.int .u64 (aQ x:Int),.bool true]) (by simp[results,Tryz.results25,go_sem]) rfl ⟨rfl,Below.refl _ _⟩
def aad (E:Nat→Addr)(full:Bool)(s:Nat):Value:=if full then .tuple #[.float .f64 0,.iface 351 (.pointer (some (E 2)))]else .tuple #[.float .f64 s,.nilIface]
section
variable {W0 : World} {E : Nat → Addr} {K M I fb b : Nat} {G : List Nat} {w : World} {R : Nat → Option Nat} {n : Nat} {its : List It} {gv : Nat}
theorem Uh (hE:Env W0 E w)(k m i:Int)(hcf:oD k m i=false):Calls Tryz.prog 5 #[gL k m i] w fun y w'=>y= .returned (.tuple #[.pointer none,.iface 351 (.pointer (some (E 1)))])∧Below w.heap.size w w':=by
 have hb0:=(Below.refl w.heap.size w).alloc (Nat.le_refl _) (.cells #[.int .i64 k,.int .i64 m,.int .i64 i] 23);have hX:=aj.new w 23 #[.int .i64 k,.int .i64 m,.int .i64 i];obtain⟨W,hW⟩:∃W,W=w.alloc (.cells #[.int .i64 k,.int .i64 m,.int .i64 i] 23):=⟨_,rfl⟩;rw[←hW]at hb0 hX;obtain⟨x0,x1,x2⟩:=hX.c3;have hn:=Ua (hE.next hb0) k m i hcf;rw[iI E (by omega:1≤1)]at hn;unfold gL at hn⊢;have HN:=qd hn;have HB:=qd hb0;have HW:=qd hW;clear hn hb0 hX hE hcf hW;go_in;go_upto_region 1 with fail;rw[←HW.out];go_wp2_with fail;refine HN.out.mono ?_;rintro y w2 ⟨rfl,hb⟩;have HB2:=qd (jq HB.out hb);clear hb HN x0 x1 x2;go_wp2;refine bodyPost_ret (v:= .tuple #[.pointer none,.iface 351 (.pointer (some (E 1)))]) (by simp[results,Tryz.results5,go_sem]) rfl ⟨rfl,HB2.out⟩
theorem adn (h:dS W0 E K M I fb b G w R n its gv)(x v:Nat)(hx:x<18446744073709551616):Calls Tryz.prog 13 #[pQ fb,.float .f64 x,.float .f64 v] w fun y w'=>y= .returned (aad E (noRoom M (R (aA x)) n) (jT (Ieee.double.add ((R (aA x)).getD 0) v)))∧lY W0 E K M I fb b G w w' (qC M R n (aA x) (jT (Ieee.double.add ((R (aA x)).getD 0) v))) (qZ M (R (aA x)) n) its gv:=by
 have HG:=qd (Pn h x hx);obtain⟨o,ho⟩:∃o,o=(R (aA x)).getD 0:=⟨_,rfl⟩;rw[←ho]at HG⊢;obtain⟨q,hq⟩:∃q,q=Ieee.double.add o v:=⟨_,rfl⟩;have Fu:jT q<18446744073709551616:=Pz (fun z e=>Jf (hq.symm.trans e))
 have HP:=qd (fun(G1:List Nat) (W:World) (hA:dS W0 E K M I fb b G1 W R n its gv)=>show Calls Tryz.prog 10 #[pQ fb,.float .f64 x,.float .f64 (jT q)] W (fun y w'=>y= .returned (jf E (if noRoom M (R (aA x)) n then 2 else 0))∧lY W0 E K M I fb b G1 W w' (qC M R n (aA x) (jT q)) (qZ M (R (aA x)) n) its gv)from by
  have h:=JW hA x (jT q) hx Fu;rw[Uf]at h
  exact h)
 have HF:=qd (fun(r:Nat) (W:World) (hr:mD q r)=>show Calls Tryz.prog 39 #[.float .f64 r] W (fun e w'=>e= .returned (.float .f64 (jT q))∧W=w')from by
  have h:=pJ r W;rw[AQ hr]at h
  exact h)
 have uw:=qd (fun(W:World)=>AR o v 38 W);rw[←hq]at uw⊢;obtain⟨s,hs⟩:∃s,s=jT q:=⟨_,rfl⟩;rw[←hs]at HF HP⊢;obtain⟨N,hN⟩:∃N,N=qZ M (R (aA x)) n:=⟨_,rfl⟩;rw[←hN]at HP⊢;obtain⟨full,hfull⟩:∃full,full=noRoom M (R (aA x)) n:=⟨_,rfl⟩;rw[←hfull]at HP⊢;obtain⟨R',hR'⟩:∃R',R'=qC M R n (aA x) s:=⟨_,rfl⟩;rw[←hR']at HP⊢;clear h ho hq Fu hs hN hfull hR' hx;go_in;go_wp2_with fail;refine HG.out.mono ?_;rintro y w1 ⟨rfl,G1,hA,hs1,hm1⟩;obtain⟨r,w2,hadd,⟨Di,hrl⟩,hb2⟩:=uw.out w1;have HP2:=qd (HP.out G1 w2 (hA.below hb2));have wK:=qd (fun(W:World)=>HF.out r W Di);have HX:=qd (And.intro hs1 (hm1.then (Mod.of_below hb2 G)));clear hA hs1 hm1 hb2 HG uw HP HF Di hrl;go_wp2_with fail;refine(wK.out _).mono ?_;rintro y wq ⟨rfl,rfl⟩;go_wp2_with fail;refine HP2.out.mono ?_;rintro y w3 ⟨rfl,G2,hA,hs,hm⟩;have HT:=qd (show lY W0 E K M I fb b G w w3 R' N its gv from⟨G2,hA,fun q hq=>(hs q hq).elim (HX.out.1 q) (fun k=> .inr (Nat.le_trans HX.out.2.size k)),HX.out.2.trans hm (fun _ hk _=>hk) (fun k hk hl=>(HX.out.1 k hk).elim id (fun z=>absurd hl (by omega)))⟩);clear hA hs hm HP2 HX hadd
 cases full with
 |true=>
  rw[show jf E (if true=true then 2 else 0)= .iface 351 (.pointer (some (E 2)))from rfl];go_wp2;refine bodyPost_ret (v:= .tuple #[.float .f64 0,.iface 351 (.pointer (some (E 2)))]) (by simp[results,Tryz.results13,go_sem]) rfl ⟨rfl,HT.out⟩
 |false=>
  rw[show jf E (if false=true then 2 else 0)= .nilIface from rfl];go_wp2;refine bodyPost_ret (v:= .tuple #[.float .f64 s,.nilIface]) (by simp[results,Tryz.results13,go_sem]) rfl ⟨rfl,HT.out⟩
end
end
section
variable {W0 w : World} {E : Nat → Addr} {I K M b fb gv n : Nat} {G : List Nat} {R : Nat → Option Nat}
theorem xJ {p:Nat×Nat}{q:Nat}:∀{l:PL} {i:Nat},l[i]?=some p→q<2→(l.flatMap fC)[i*2+q]?=some ((fC p)[q]!)
 | [],i,h,_=>by simp at h
 |x::l,0,h,hq=>by
  obtain rfl:x=p:=by simpa using h
  rw[List.flatMap_cons,List.getElem?_append_left (by simp[fC];omega),Nat.zero_mul,Nat.zero_add];rcases q with _|_|q
  ·rfl
  ·rfl
  ·omega
 |x::l,i+1,h,hq=>by
  rw[List.flatMap_cons,List.getElem?_append_right (by simp[fC];omega),show(i+1)*2+q-(fC x).length=i*2+q by simp[fC];omega];exact xJ (by simpa using h) hq
theorem dS.few {its:List It}(h:dS W0 E K M I fb b G w R n its gv):n≤M∧M≤192:=by
 obtain⟨F,a,ids,d9,_,h2,_,_,_,_,rfl⟩:=h;exact⟨h2.facts.2.2.1,h2.facts.2.2.2.1⟩
theorem ado (h:dS W0 E K M I fb b G w R n [] gv)(hI:1≤I)(hg:gv≤100000)(h6:fJ E W0 6)(hok:oh R)(hn:n≤192):Calls Tryz.prog 22 #[pQ fb] w fun y w'=>∃(l:PL) (G':List Nat),y= .returned (.tuple #[.float .f64 (jT (ql l)),.nilIface])∧jM R n l∧dS W0 E K M I fb b G' w' R n [] (gv+1)∧(∀q∈G',q∈G∨w.heap.size≤q)∧Mod G w w':=by
 have wQ:=qd (GN h hI hg h6 hok hn);have Hn:=qd hn;clear h hI hg h6 hok hn;go_in;go_wp2_with fail;refine wQ.out.mono ?_;rintro y w1 ⟨v,l,G1,rfl,hrw,ho,hA,hs,hm⟩;have FK:=qd hrw;have HL:=qd (And.intro ho hA);have HS:=qd hs;have HM:=qd hm;have H0:=qd (show mD (ql (l.take 0)) 0 from rfl);obtain⟨A4,c4,hv4⟩:=bA ho.row;subst hv4
 have hlen:l.length≤192:=by rw[hrw.len];exact Hn.out
 clear hrw ho hA hs hm wQ;go_wp2;go_loopw [6,8,19] (fun v6 _ v19 wr=>∃q s:Nat,q≤l.length∧v19=nI q∧v6= .float .f64 s∧Hid (mD (ql (l.take q)) s)∧Hid (gW w.heap.size wr 62 2 (.slice A4 l.length c4) l.length (l.flatMap fC) G1∧dS W0 E K M I fb b G1 wr R n [] (gv+1))∧Hid (Mod G w wr)) (fun _ _ v19 _=>l.length-(intOf v19).toNat)
 case atStart=>exact⟨0,0,by omega,rfl,rfl,H0,HL,HM⟩
 case round=>
  clear HL HM H0;obtain⟨q,s,hq,rfl,rfl,HQ,HL,HM⟩:=hrel;by_cases hlt:q<l.length
  ·have hlt':(q:Int)<(l.length:Int):=by omega
   have hq0:(0:Int)≤(q:Int):=by omega
   have hwq:IntKind.i64.wrap ((q:Int)+1)=((q+1:Nat):Int):=by rw[IntKind.wrap_i64];omega
   obtain⟨x,hx⟩:∃x,l[q]?=some x:=⟨_,List.getElem?_eq_getElem hlt⟩;obtain⟨g,off,hA,hgl,hc⟩:=(Reads.fD HL.out.1.row).2 (by omega);have r0:wr.cell? ⟨g,off+q*2,none⟩=some (.float .f64 (pV x.1)):=hc (q*2+0) _ (xJ hx (by omega));have r1:wr.cell? ⟨g,off+q*2+1,none⟩=some (.float .f64 x.2):=hc (q*2+1) _ (xJ hx (by omega));have HX:=qd hx;have HJ:=qd (Nat.succ_le_of_lt hlt);have Cj:=qd (show l.length-(intOf (.int .i64 ((q:Int)+1))).toNat<l.length-(intOf (nI q)).toNat from by show l.length-((q:Int)+1).toNat<l.length-(q:Int).toNat;omega);have Jp:=fun(a:Addr) (z:Nat) m (V:World)=>run_store Tryz.prog V a (.float .f64 z) m rfl;subst hA;clear hc hx hgl;go_upto_region 8 with fail;clear Jp;refine bV (F:=fun v=>aj v wr.heap.size 62 #[.float .f64 (pV x.1),.float .f64 x.2]∧Below wr.heap.size wr v) ⟨aj.new wr 62 #[.float .f64 (pV x.1),.float .f64 x.2],(Below.refl wr.heap.size wr).alloc (Nat.le_refl _) _⟩ ?_;rintro w6 ⟨mV,hb6⟩;obtain⟨bx,hbx⟩:∃bx,bx=wr.heap.size:=⟨_,rfl⟩;rw[←hbx]at mV⊢;have x1:=mV.cell 1;simp only[gl]at x1;obtain⟨r,w7,hadd,⟨Di,hrl⟩,Du⟩:=AR s x.2 38 w6;have nQ:=hb6.trans (Du.mono hb6.size);have Ja:=qd (And.intro (HL.out.1.below nQ) (HL.out.2.below nQ));have Af:=qd (HM.out.then (Mod.of_below nQ _));have HQ7:=qd (show mD (ql (l.take (q+1))) r from by rw[JZ HX.out];exact MG HQ.out Di);clear mV hb6 hbx HL HM HQ r0 r1 Di hrl Du nQ;go_wp2;go_roundw
   all_goals first|exact⟨⟨q+1,r,HJ.out,rfl,rfl,HQ7,Ja,Af⟩,Cj.out⟩|exact⟨q+1,r,HJ.out,rfl,rfl,HQ7,Ja,Af⟩|exact Cj.out
  ·obtain rfl:q=l.length:=by omega
   have hlt':¬(l.length:Int)<(l.length:Int):=by omega
   have HF:=qd (fun(W:World)=>show Calls Tryz.prog 39 #[.float .f64 s] W (fun e w'=>e= .returned (.float .f64 (jT (ql l)))∧W=w')from by
    have h:=HQ.out;rw[List.take_of_length_le (Nat.le_refl _)]at h;rw[←AQ h]
    exact pJ s W)
   have HA:=qd HL.out.2;clear HQ HL hq hlt;go_wp2_with fail;refine(HF.out _).mono ?_;rintro y wq ⟨rfl,rfl⟩;go_wp2;refine bodyPost_ret (v:= .tuple #[.float .f64 (jT (ql l)),.nilIface]) (by simp[results,Tryz.results22,go_sem]) rfl ⟨l,_,rfl,FK.out,HA.out,HS.out,HM.out⟩
end
section
variable {W0 w : World} {E : Nat → Addr}
theorem Jb (w:World):Calls Tryz.prog 28 #[.float .f64 0,.float .f64 13830554455654793216] w fun y w'=>y= .returned (.float .f64 9223372036854775808)∧w=w':=by
 have he:=@run_callFunc_extern Tryz.prog 8 _ Extern.MathFloatBits.float64bits Tryz.func8 (by kernel_rfl) (by kernel_rfl) (by kernel_rfl) (by kernel_rfl);have hb:=fun(b:Nat) (W:World)=>show(Extern.MathFloatBits.float64bits #[.float .f64 b]).run Tryz.prog W= .ok (nU b) W from rfl;have hxx:=@run_callFunc_extern Tryz.prog 37 _ Extern.MathFloatBits.float64frombits Tryz.func37 (by kernel_rfl) (by kernel_rfl) (by kernel_rfl) (by kernel_rfl);have GZ:=fun(n:Int) (W:World)=>show(Extern.MathFloatBits.float64frombits #[.int .u64 n]).run Tryz.prog W= .ok (.float .f64 n.toNat) W from rfl;go_in;go_wp2;go_ret;exact⟨rfl,rfl⟩
theorem aae {K M I fb b:Nat}{G:List Nat}{R:Nat→Option Nat}{n:Nat}{its:List It}{gv:Nat}(h:dS W0 E K M I fb b G w R n its gv)(hR:R (aA 0)=some 4607182418800017408)(hn:n<M):Calls Tryz.prog 13 #[pQ fb,.float .f64 0,.float .f64 4611686018427387904] w fun y w'=>y= .returned (.tuple #[.float .f64 4613937818241073152,.nilIface])∧lY W0 E K M I fb b G w w' (qA R (aA 0) (some 4613937818241073152)) n its gv:=by
 have hg:=Pn h 0 (by decide);rw[hR]at hg;have HG1:=qd (show Calls Tryz.prog 17 #[pQ fb,.float .f64 0] w (fun y w'=>y= .returned (.tuple #[.float .f64 4607182418800017408,.bool true])∧lY W0 E K M I fb b G w w' R n its gv)from hg);have HR:=qd hR;have HN:=qd hn;have HF:=qd (fun(W:World)=>(pJ 4613937818241073152 W));rw[show aQ 4613937818241073152=4613937818241073152 by decide]at HF;have hadd:=fun(W:World)=>show(binOp .add 38 (.float .f64 4607182418800017408) (.float .f64 4611686018427387904)).run Tryz.prog W= .ok (.float .f64 4613937818241073152) W from rfl;clear hg h hR hn;go_in;go_wp2_with fail;refine HG1.out.mono ?_;rintro y w1 ⟨rfl,G1,hA,hs,hm⟩;have hp:=Xf hA 0 4613937818241073152 (by decide) (by decide) HN.out;rw[HR.out]at hp;have HP:=qd (show Calls Tryz.prog 10 #[pQ fb,.float .f64 0,.float .f64 4613937818241073152] w1 (fun y w'=>y= .returned .nilIface∧lY W0 E K M I fb b G1 w1 w' (qA R (aA 0) (some 4613937818241073152)) n its gv)from hp);have HS:=qd (And.intro hs hm);clear hp hA hs hm HG1;go_wp2_with fail;refine(HF.out _).mono ?_;rintro y wq ⟨rfl,rfl⟩;go_wp2_with fail;refine HP.out.mono ?_;rintro y w2 ⟨rfl,G2,hA,hs,hm⟩;have HT:=qd (show lY W0 E K M I fb b G w w2 (qA R (aA 0) (some 4613937818241073152)) n its gv from⟨G2,hA,fun q hq=>(hs q hq).elim (HS.out.1 q) (fun k=> .inr (Nat.le_trans HS.out.2.size k)),HS.out.2.trans hm (fun _ hk _=>hk) (fun k hk hl=>(HS.out.1 k hk).elim id (fun z=>absurd hl (by omega)))⟩)
 clear hA hs hm HP HS;go_wp2;refine bodyPost_ret (v:= .tuple #[.float .f64 4613937818241073152,.nilIface]) (by simp[results,Tryz.results13,go_sem]) rfl ⟨rfl,HT.out⟩
theorem Qs (hE:Env W0 E w):Calls Tryz.prog 4 #[] w fun y w'=>y= .returned (.bool true)∧Below w.heap.size w w':=by
 have hn:=Xd hE 1 9 1 (by decide) 1 9 1 ⟨by decide,by decide,rfl,rfl,rfl⟩ (by decide);unfold gL at hn;have HN:=qd hn;clear hn hE;have Cv:=qd (fun(W:World)=>Jb W);go_in;go_wp2_with fail;refine HN.out.mono ?_;rintro y w1 ⟨fb,b,G1,rfl,hA,hG,hb⟩;have HA:=qd hA;have HG:=qd hG;have HB:=qd hb;have HB0:=qd hb.size;clear hA hG hb HN;go_wp2_with fail;refine(Cv.out _).mono ?_;rintro y wq ⟨rfl,rfl⟩;have hp:=Xf HA.out 9223372036854775808 4607182418800017408 (by decide) (by decide) (by decide);rw[show aA 9223372036854775808=aA 0 by decide,show aQ 4607182418800017408=4607182418800017408 by decide]at hp;have HC:=qd (show Calls Tryz.prog 10 #[pQ fb,.float .f64 9223372036854775808,.float .f64 4607182418800017408] w1 (fun y w'=>y= .returned .nilIface∧lY W0 E 1 9 1 fb b G1 w1 w' (qA (fun _=>none) (aA 0) (some 4607182418800017408)) 1 [] 0)from hp);clear hp;go_wp2_with fail;refine HC.out.mono ?_;rintro y w2 ⟨rfl,G2,hA,hs,hm⟩;replace HB:=qd (HB.out.trans (hm.below HG.out HB.out.size));replace HG:=qd (show∀q∈G2,w.heap.size≤q from fun q hq=>(hs q hq).elim (HG.out q) (fun k=>Nat.le_trans HB0.out k));replace HB0:=qd HB.out.size;replace HA:=qd hA;clear hA hs hm HC;have HC:=qd (aae HA.out (Lp _ _ _) (by decide));go_wp2_with fail;refine HC.out.mono ?_;rintro y w3 ⟨rfl,G3,hA,hs,hm⟩;replace HB:=qd (HB.out.trans (hm.below HG.out HB.out.size));replace HG:=qd (show∀q∈G3,w.heap.size≤q from fun q hq=>(hs q hq).elim (HG.out q) (fun k=>Nat.le_trans HB0.out k));replace HB0:=qd HB.out.size
 replace HA:=qd hA;clear hA hs hm HC
 have hq3:(FloatKind.f64.format.order 4613937818241073152 4613937818241073152==some .eq)=true:=by decide
 have HC:=qd (fun(W:World) (hW:Below w3.heap.size w3 W)=>Xe (HA.out.below hW));go_wp2_with fail;refine(HC.out _ (Below.refl _ _)).mono ?_;rintro y wq ⟨rfl,rfl⟩;go_wp2;go_ret;exact⟨rfl,HB.out⟩
end
section
variable {E : Nat → Addr} {w : World}
theorem PD (E:Nat→Addr)(k:Nat)(h:k<16):(qQ E)[k]?=some (.iface 351 (.pointer (some (E (k+1))))):=by
 unfold qQ;rw[List.getElem?_map,List.getElem?_range h];rfl
theorem Ez (h:eY E w)(j:Nat)(h1:1≤j)(h2:j≤16):
  Calls Tryz.prog 7 #[.iface 351 (.pointer (some (E j)))] w fun e w'=>e= .returned (.int .i64 j)∧Below w.heap.size w w':=by
 have hS:=h.alloc (.cells (qQ E).toArray 28);have hcells:=aj.new w 28 (qQ E).toArray;have hB:Below w.heap.size w (w.alloc (.cells (qQ E).toArray 28)):=(Below.refl _ _).alloc (Nat.le_refl _) _;go_in;go_wp2_with (go_at_call 31;refine(aa5 h).mono ?_;rintro e w1 ⟨rfl,rfl⟩);obtain⟨W,hW⟩:∃W,W=w.alloc (.cells (qQ E).toArray 28):=⟨_,rfl⟩;rw[←hW]at hS hcells hB⊢;clear hW;go_loop [3,4,9] (fun _ _ i=>∃k:Nat,k<j∧i= .int .i64 k) (fun _ _ i=>16-(intOf i).toNat)
 case atStart=>exact⟨0,by omega,rfl⟩
 case round=>
  obtain⟨k,hk,rfl⟩:=hrel
  have hc:W.cell? ⟨w.heap.size,k,none⟩=some (.iface 351 (.pointer (some (E (k+1))))):=by rw[hcells.cell k,List.getElem?_toArray];exact PD E k (by omega)
  have hi:=aa4 hS j (k+1) h1 h2 (by omega) (by omega);by_cases hjk:j=k+1
  ·have hb:(j==k+1)=true:=by simp[hjk]
   rw[hb]at hi;have Hjk:=qd hjk;clear hjk hb;go_wp2_with (go_at_call 32;refine hi.mono ?_;rintro e w1 ⟨rfl,rfl⟩);go_ret;exact⟨gJ (by have:=Hjk.out;omega),hB⟩
  ·have hb:(j==k+1)=false:=by simp[hjk]
   rw[hb]at hi;clear hb;go_wp2_with (go_at_call 32;refine hi.mono ?_;rintro e w1 ⟨rfl,rfl⟩);go_round
   case rel=>exact⟨k+1,by omega,by go_num⟩
   case measure=>simp[intOf];omega
theorem RN (h:eY E w)(j:Nat)(h2:j≤16):
  Calls Tryz.prog 7 #[jf E j] w fun e w'=>e= .returned (.int .i64 j)∧Below w.heap.size w w':=by
 by_cases h0:j=0
 ·subst h0;exact(aa6 w).mono fun e w' ⟨he,hw⟩=>⟨he,hw▸Below.refl _ _⟩
 ·rw[iI E (by omega)];exact Ez h j (by omega) h2
end
section
attribute [local go_sem] Oper.semAt_some
section
variable {P : Program} {F : Fence} {n : Nat} {ops : Array Oper} {rest : List Oper} {o : Oper} {a : Act} {Q : Exit → Act → World → Prop} {w : World} {t k e : TypeId} {b g r : Nat} {seen : Array Nat}
theorem Cw (hg:o.guard=none)(m:Operand)(hop:o.op=Op.range t m)(ht:P.underlying t=some (.map k e))(hm:a.eval m= .map (some b))(h:w.heap[b]?=some (.map #[] g))
  (hK:wpListIn F n P ops Q rest (a.put o.dst (pQ w.heap.size)) (w.alloc (.mapIter (some b) g #[] g))):wpListIn F n P ops Q (o::rest) a w:=by
 refine wpListIn_plain hg fun K' hK'=> ?_;have hrun:=run_range_map w t k e b #[] g ht h;unfold Oper.wpIn;refine⟨by simp[Oper.about,hop], ?_⟩;rw[Oper.semAt_plain F _ _ (by rw[hop];intro c hc';cases hc')];simp[execOp,hop,hm,hrun,Result.andThen];exact hK' _ _ hK
theorem Ej (hg:o.guard=none)(it:Operand)(hop:o.op=Op.next it false)(hit:a.eval it=pQ r)(h:w.heap[b]?=some (.map #[] g))(hr:w.heap[r]?=some (.mapIter (some b) g seen g))
  (hDone:wpListIn F n P ops Q rest (a.put o.dst (.tuple #[.bool false])) w):wpListIn F n P ops Q (o::rest) a w:=by
 refine wpListIn_plain hg fun K' hK'=> ?_;unfold Oper.wpIn;refine⟨by simp[Oper.about,hop], ?_⟩;rw[Oper.semAt_plain F _ _ (by rw[hop];intro c hc';cases hc')];rcases run_next_at (P:=P) w o.type r b g g seen #[] g hr h (by simp) (Nat.le_refl _)with⟨h0,hrun⟩|⟨x,hx,_⟩
 ·simp[execOp,hop,hit,hrun,Result.andThen];exact hK' _ _ hDone
 ·obtain⟨hem,_⟩:=mem_left hx;simp at hem
end
theorem Ui (F:Fence)(q:Nat)(hF:F.fn 99)(hro:F.round=none)(Bm b g:Nat)(w:World)(BZ:Bm<w.heap.size)(hbn:b<w.heap.size)(hc:w.cell? ⟨Bm,0,none⟩=some (.map (some b)))(hm:w.heap[b]?=some (.map #[] g)):
  SeqStopsK F q Tryz.prog 99 #[pQ Bm] (fun x:Int=> #[.int .i64 x]) (Below w.heap.size) (fun ys=>ys=[]) (fun _=>False) 0 w:=fun lp J Jx W hW hJ _ _ h0=>by
 have UZ:=(hW.cell (p:=⟨Bm,0,none⟩) BZ).trans hc;have hmW:=(hW.block b hbn).trans hm;have hJ1:=hJ [] W (W.alloc (.mapIter (some b) g #[] g)) none h0 (World.grownBy_alloc _ _ _) (fun r e=>by cases e);have hm1:=(Below.heap_alloc W (.mapIter (some b) g #[] g) b (Array.getElem?_eq_some_iff.1 hmW).1).trans hmW;have hi1:=heap_alloc_new W (.mapIter (some b) g #[] g);clear hW hm hc hJ h0;refine callsIn_of_wp Tryz.func99 rfl hF ?_ hro;simp only[Tryz.ntmps99,List.size_toArray,List.length_cons,List.length_nil,Nat.reduceAdd,Nat.reduceSub,Array.replicate_succ,Array.replicate_zero,List.push_toArray,List.append_toArray,List.nil_append,List.cons_append]
 gi_wp2_with (first|(gi_at_range;refine Cw rfl _ rfl Tryz.underlying131 rfl hmW ?_)|gi_in)
 (try go_frame)
 obtain⟨W1,hW1⟩:∃W1,W1=W.alloc (.mapIter (some b) g #[] g):=⟨_,rfl⟩;rw[←hW1]at hJ1 hm1 hi1⊢;clear hW1
 gi_loopw [3] (fun _ wr=>wr=W1) (fun _ _=>0)
 case atStart=>exact rfl
 case round=>
  obtain rfl:=hrel
  gi_wp2_with (first|(gi_at_next;refine Ej rfl _ rfl rfl hm1 hi1 ?_)|gi_in)
  gi_wp2
  go_end0;exact⟨⟨_,rfl⟩,.inl ⟨[],rfl,hJ1⟩⟩
theorem Qt (Bm b g:Nat)(w:World)(BZ:Bm<w.heap.size)(hbn:b<w.heap.size)(hc:w.cell? ⟨Bm,0,none⟩=some (.map (some b)))(hm:w.heap[b]?=some (.map #[] g)):
  Calls Tryz.prog 142 #[.slice none 0 0,.func (.func 99) #[] #[pQ Bm]] w fun e w'=>e= .returned (.slice none 0 0)∧Below w.heap.size w w':=by
 refine(callsIn_wide (n:=10)).1 ?_
 have h1:1≤10:=by omega
 refine callsIn_of_wp_marks Tryz.func142 rfl trivial ?_ rfl;simp only[Tryz.ntmps142,List.size_toArray,List.length_cons,List.length_nil,Nat.reduceAdd,Nat.reduceSub,Array.replicate_succ,Array.replicate_zero,List.push_toArray,List.append_toArray,List.nil_append,List.cons_append];have bS:=Boxed.new w 65 (.slice none 0 0);have hB0:=(Below.refl _ w).alloc (Nat.le_refl _) (.cells #[.slice none 0 0] 65)
 have hsz:(w.alloc (.cells #[.slice none 0 0] 65)).heap.size=w.heap.size+1:=by simp
 have hc0:=(hB0.cell (p:=⟨Bm,0,none⟩) BZ).trans hc;have hm0:=(hB0.block b hbn).trans hm
 gi_wp2
 obtain⟨W0,hW0⟩:∃W0,w.alloc (.cells #[.slice none 0 0] 65)=W0:=⟨_,rfl⟩;rw[hW0]at bS hB0 hsz hc0 hm0⊢;clear hW0
 refine wpIn_rangeFunc_ownH rfl h1 (gf:=99) (lb:= #[pQ Bm]) rfl trivial (enters_of Tryz.func99 (by kernel_rfl) rfl)
  (Ui Fence.wide (10-1) trivial rfl Bm b g W0 (by omega) (by omega) hc0 hm0) belowK_t (belowK_b (Nat.le_refl _)) (Below.refl _ _) (fun _=>rfl)
  (fun _ W=>Boxed W w.heap.size 65 (.slice none 0 0)∧Below W0.heap.size W0 W)
  (fun _ _ _=>False)
  (OwnFrom.and (Own.from (boxed_own _ _ _) _) (ownFrom_below (Nat.le_refl _) (Nat.le_refl _)))
  (fun _ _ _ _ _ hs _ _=>hs)
  ⟨bS,Below.refl _ _⟩
  (fun _ _ _=>True)
  (fun _ _ _ _ _ _ _ _ _=>trivial)
  ?assign ?body ?done ?stop
 case assign=>
  rintro lp pre x W K ⟨hb,hB1⟩ hK
  gi_wp2
  exact hK _ _ (KeepsFrom.refl _ _) (Below.refl _ _) ⟨hb,hB1⟩ trivial
 case body=>
  rintro lp pre x a' W hl _ _ _ hlt;exact absurd hlt (Nat.not_lt_zero _)
 case done=>
  rintro D ys W hD rfl ⟨hb,hB1⟩ hK;have cR:=hb.cell
  gi_wp2
  refine⟨by simp,.inl ⟨_,_,rfl,run_takeDeferred hK, ?_⟩⟩;refine⟨.slice none 0 0, ?_,rfl,(hB0.trans (hB1.mono hB0.size)).trans (belowK_b (w:=w) (Nat.le_refl _) W D _ _ (by omega) hK rfl rfl)⟩;simp[results,Tryz.f142,go_sem]
 case stop=>
  rintro D c pre W hD hf;exact hf.elim
theorem PE (Bm b g:Nat)(w:World)(BZ:Bm<w.heap.size)(hbn:b<w.heap.size)(hc:w.cell? ⟨Bm,0,none⟩=some (.map (some b)))(hm:w.heap[b]?=some (.map #[] g)):
  Calls Tryz.prog 97 #[.func (.func 99) #[] #[pQ Bm]] w fun e w'=>e= .returned (.slice none 0 0)∧Below w.heap.size w w':=by
 have HA:=qd (Qt Bm b g w BZ hbn hc hm);clear hc hm;go_in;go_wp2_with fail;refine HA.out.mono ?_;rintro e w1 ⟨rfl,hb1⟩;go_wp2;go_ret;exact⟨rfl,hb1⟩
theorem Uj (w:World):Calls Tryz.prog 141 #[.int .u64 0] w fun e w'=>e= .returned (.int .i64 0)∧w=w':=by
 go_in;go_wp2;go_ret;exact⟨by first|rfl|kernel_rfl|decide+kernel,rfl⟩
theorem aaf (w:World):Calls Tryz.prog 94 #[.int .u64 0] w fun e w'=>e= .returned (.int .i64 0)∧w=w':=by
 have HL:=qd (Uj w);go_in;go_wp2_with fail;refine HL.out.mono ?_;rintro e w1 ⟨rfl,rfl⟩;go_wp2;go_ret;exact⟨rfl,rfl⟩
theorem Xx (w:World):Calls Tryz.prog 197 #[.slice none 0 0,.int .i64 0,.int .i64 0] w fun e w'=>e= .returned (.tuple #[])∧w=w':=by
 go_in;go_wp2;refine wp_loop_rounds 1 ?_;rw[rounds_succ];go_wp2;go_end0;exact⟨rfl,rfl⟩
theorem Xy (w:World):Calls Tryz.prog 143 #[.slice none 0 0,.int .i64 0,.int .i64 0,.int .i64 0] w fun e w'=>e= .returned (.tuple #[])∧w=w':=by
 have HI:=qd (Xx w);go_in;go_wp2;refine wp_loop_rounds 1 ?_;rw[rounds_succ];go_wp2_with fail;refine HI.out.mono ?_;rintro e w' ⟨rfl,rfl⟩;go_wp2
 (try simp only[Exit.inBlock,Exit.then])
 refine bodyPost_ret (results_none rfl _ _ _) rfl ?_;exact⟨rfl,rfl⟩
theorem Uk (w:World):Calls Tryz.prog 98 #[.slice none 0 0] w fun e w'=>e= .returned (.tuple #[])∧w=w':=by
 have HL:=qd (aaf w);have HP:=qd (Xy w);go_in;go_wp2_with fail;refine HL.out.mono ?_;rintro e w' ⟨rfl,rfl⟩;go_wp2_with fail;refine HP.out.mono ?_;rintro e w' ⟨rfl,rfl⟩;go_wp2;go_end0;exact⟨rfl,rfl⟩
theorem Qu (Bm b g:Nat)(w:World)(BZ:Bm<w.heap.size)(hbn:b<w.heap.size)(hc:w.cell? ⟨Bm,0,none⟩=some (.map (some b)))(hm:w.heap[b]?=some (.map #[] g)):
  Calls Tryz.prog 70 #[.func (.func 99) #[] #[pQ Bm]] w fun e w'=>e= .returned (.slice none 0 0)∧Below w.heap.size w w':=by
 have HC:=qd (PE Bm b g w BZ hbn hc hm);have HS:=qd (fun W=>Uk W);clear hc hm;go_in;go_wp2_with fail;refine HC.out.mono ?_;rintro e w1 ⟨rfl,hb1⟩;go_wp2_with fail;refine(HS.out _).mono ?_;rintro e wq ⟨rfl,rfl⟩;go_wp2;go_ret;exact⟨rfl,hb1⟩
theorem Xz (b:Nat)(w:World):Calls Tryz.prog 71 #[.map (some b)] w fun e w'=>e= .returned (.func (.func 99) #[] #[pQ w.heap.size])∧w'=w.alloc (.cells #[.map (some b)] 131):=by
 have oz:∀(fn:Fn) (first cap:Array Value) (w:World),(Instr.makeFunc fn first cap).run Tryz.prog w= .ok (.func fn first cap) w:=fun _ _ _ _=>rfl;go_in;go_wp2;go_ret;exact⟨rfl,rfl⟩
theorem aag {w:World}{ib mb most given:Nat}(h:gM w ib mb most given []):Calls Tryz.prog 45 #[pQ ib] w fun e w'=>e= .returned (.slice none 0 0)∧Below w.heap.size w w':=by
 have c2:=h.blk.cell 2;simp only[gl]at c2;have hb0:=(Below.refl w.heap.size w).alloc (Nat.le_refl _) (.cells #[.map (some mb)] 131);have hmm:w.heap[mb]?=some (.map #[] given):=h.map;have hlt:=(Array.getElem?_eq_some_iff.1 hmm).1;have HK:=qd (Xz mb w);have HS:=qd (Qu w.heap.size mb given (w.alloc (.cells #[.map (some mb)] 131)) (by simp) (by simp;omega) ((aj.new w 131 #[.map (some mb)]).cell 0) ((hb0.block mb hlt).trans hmm));have HB:=qd hb0;clear hb0 hmm h;go_in;go_wp2_with fail;refine HK.out.mono ?_;rintro e w1 ⟨rfl,rfl⟩;go_wp2_with fail;refine HS.out.mono ?_;rintro e w2 ⟨rfl,hb2⟩;go_wp2;go_ret;exact⟨rfl,HB.out.trans (hb2.mono HB.out.size)⟩
theorem Mr {W0:World}{E:Nat→Addr}{H:Nat→Nat}{K M I b:Nat}{G:List Nat}{w:World}{R:Nat→Option Nat}{n gv:Nat}(h:tO W0 E H K M I b G w R n [] gv):Calls Tryz.prog 27 #[pQ b] w fun y w'=>y= .returned (.slice none 0 0)∧Below w.heap.size w w':=by
 obtain⟨a,ids,d9,⟨C,GC,mb,hS,rfl,qY⟩,_,_⟩:=h;have hbk:=hS.blk.blk;unfold fZ.cells at hbk;have c16:=hbk.cell 16;simp only[gl]at c16;have HL:=qd (aag hS.nZ);clear hbk hS qY;go_in;go_wp2_with fail;refine HL.out.mono ?_;rintro y w1 ⟨rfl,hb1⟩;go_wp2;go_ret;exact⟨rfl,hb1⟩
end
end Go.Proofs.YtnfjjbpmhcbelaaGreatDoor
