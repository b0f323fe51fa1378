/- Where a seek ends: the places are of the table. No program in sight. -/
import Derived.Test.YtjfgpnapccdnlaaGreatDoorTabS
import Derived.Test.YtjfgpnapccdnlaaGreatDoorCoV
import Derived.Test.YtjfgpnapccdnlaaGreatDoorKit2
import Derived.Test.YtjfgpnapccdnlaaGreatDoorBuilder
import Derived.Test.YtjfgpnapccdnlaaGreatDoorErrs
import Derived.Laws.StructEq
import Derived.Test.YtjfgpnapccdnlaaGreatDoorSqT
import Derived.Test.YtjfgpnapccdnlaaGreatDoorKit
import Derived.Test.YtjfgpnapccdnlaaGreatDoorShelf
import Derived.Lib.SplitLaws
import Derived.WalkKit
import Derived.WalkSpells
import Derived.WalkLawsBesides
import Derived.Outline
import Derived.Deep.QuietTactic
import Derived.BigQuiet
namespace Go.Proofs.YtjfgpnapccdnlaaGreatDoor.dF
set_option maxRecDepth 100000
set_option maxHeartbeats 4000000
open Go Go.RowKit dF Go.Shelf wF qw yS
theorem Uh {G:kK}{s:Nat}(h:kY G=some s):s<G.length∧(G.getD s .empty).isFull=false:=by
 obtain⟨hk,hp,_⟩:=List.findIdx?_eq_some_iff_getElem.1 h;refine⟨hk, ?_⟩;rw[getD_in hk];simpa using hp
def Dr (gs:Tab)(x:Option (Nat×Nat)):Prop:=∀i s,x=some (i,s)→i<gs.length∧s<(gs.getD i []).length∧(aG gs i s).isFull=false
theorem WE {gs:Tab}{fr:Option (Nat×Nat)}(h:Dr gs fr){i:Nat}(hi:i<gs.length):Dr gs (iA fr i (gs.getD i [])):=by
 intro a b hab
 cases fr with
 |some x=>exact h a b hab
 |none=>
  unfold iA at hab;dsimp only at hab
  cases hg:kY (gs.getD i [])with
  |none=>rw[hg]at hab;cases hab
  |some s=>
   rw[hg]at hab;cases hab;exact⟨hi,Uh hg⟩
theorem K3 (gs:Tab)(key hash:Nat):∀(l:List Nat) (fr:Option (Nat×Nat)),(∀i∈l,i<gs.length)→Dr gs fr→Dr gs (jQ gs key hash l fr).2.1
 | [],_,_,h=>h
 |i::is,fr,hl,h=>by
  have h1:=WE h (hl i (by simp));have ih:=K3 gs key hash is _ (fun x hx=>hl x (by simp[hx])) h1;rw[jQ]
  cases gJ (gs.getD i []) key hash with
  |some s=>exact h1
  |none=>
   cases dA (gs.getD i [])with
   |true=>exact h1
   |false=>exact ih
theorem walk_lt {h n i:Nat}(hn:0<n)(hi:i∈walk h n):i<n:=by
 obtain⟨j,_,rfl⟩:=List.mem_map.1 hi;exact Nat.mod_lt _ hn
theorem zJ (gs:Tab)(hn:0<gs.length)(key hash:Nat):Dr gs (aK gs key hash).2.1:=by
 rw[y7];exact K3 gs key hash _ none (fun i hi=>walk_lt hn hi) (fun _ _ h=>by cases h)
theorem Dt {gs:Tab}{key hash i s:Nat}(h:(aK gs key hash).1=some (i,s)):∃e,aG gs i s= .full e∧e.key=key∧i<gs.length∧s<(gs.getD i []).length:=by
 obtain⟨e,h1,h2,_⟩:=Il h;have:=j6 (gs:=gs) (i:=i) (s:=s) (by rw[h1];simp);exact⟨e,h1,h2,this⟩
end Go.Proofs.YtjfgpnapccdnlaaGreatDoor.dF

/-! A table's Find, Put, Delete by their contracts. -/
namespace Go.Proofs.YtjfgpnapccdnlaaGreatDoor
set_option maxRecDepth 100000
set_option maxHeartbeats 4000000
open Go Go.RowKit dF Go.Shelf wF qw yS
theorem dx {p F:World→Prop}{w:World}(h:F w)(h2:∀v,F v→p v):p w:=h2 w h
theorem gF.below {w w':World}(h:gF w)(hb:Below w.heap.size w w'):gF w':=fun i hi=>aA hb (h i hi)
theorem gF.mod {S:List Nat}{w w':World}(h:gF w)(hm:Mod S w w')(hs:21 ∉S):gF w':=fun i hi=>
 (hm.cell_ (p:=⟨21,pJ i,none⟩) (World.block_lt_of_cell? w _ (h i hi)) hs).trans (h i hi)
def sF (gs:Tab)(key hash:Nat):Option ay:=(aK gs key hash).1.map fun x=>(aG gs x.1 x.2).ent
def qh (o:Option ay):Value:= .tuple #[aW (o.getD ⟨0,0,0⟩),.bool o.isSome]
theorem ni (tb gb key hash:Nat)(T:aD)(ap fp:Option Addr)(fs:Int)(hap:gV gb (aK T.gs key hash).1 ap)(w:World)(h:TabAt w tb gb T):
  Calls Tryz.prog 91 #[dB tb key hash ap (dz (aK T.gs key hash).1) fp fs] w fun x w'=>x= .returned (qh (sF T.gs key hash))∧Below w.heap.size w w':=by
 unfold sF qh
 cases hs:(aK T.gs key hash).1 with
 |none=>exact IQ tb key hash ap fp fs w
 |some x=>
  obtain⟨i,s⟩:=x;obtain⟨e,h1,_,h3,h4⟩:=Dt hs;obtain rfl:=hap i s hs;have:=IU tb key hash gb fp fs T i s h3 (by have:=h.wide.at_ h3;omega) e h1 w h;simpa[dz,h1,Slot.ent]using this
theorem MN (tb gb:Nat)(T:aD)(mb:Nat)(mt:TypeId)(mD jH:List Value)(mo:Nat)(a0 l0:bF)(m:Int)(c:bF)(e:ay)(w:World)(h:TabAt w tb gb T)(hP:Pw T.gs.length)(h64:e.hash<18446744073709551616)(hM:Met w mb mt mD jH mo a0 l0 m)(hmt:mb≠tb)(lX:mb≠gb)(hT:gF w)(hz:21 ≠mb)(hsk:(aK T.gs e.key e.hash).1=none)(i s:Nat)(hfr:(aK T.gs e.key e.hash).2.1=some (i,s))(hS:Small T)(hroom:T.live+T.bO+1≤7*(T.gs.length:Int)):
  Calls Tryz.prog 310 #[cK tb,aN (some ⟨mb,mo,none⟩) c,aW e] w fun x w'=>x= .returned (.tuple #[.bool true,.nilIface])∧TabAt w' tb gb (jA T i s e)∧Met w' mb mt mD jH mo (gB a0 c (aK T.gs e.key e.hash).2.2) (gB l0 c (aK T.gs e.key e.hash).2.2) m∧Mod [mb,tb,gb] w w':=by
 obtain⟨W,hW,hB,hL,hE⟩:=qP w 145 #[.pointer (some ⟨mb,mo,none⟩),.int .i64 c.p,.int .i64 c.v,.int .i64 c.u] 148 #[.int .u64 (e.key:Int),.int .u64 (e.val:Int),.int .u64 (e.hash:Int)];obtain⟨Oy,Oz,OA,OB⟩:=hL.c4;obtain⟨e0,e1,e2⟩:=hE.c3;have hml:=hM.lt;have htl:=h.aU;have hgl:=h.aV;have nY:=h.below hB;have h8:=fun i hi=>h.wide.at_ (i:=i) hi;have bM:=qd (IV tb gb e.key e.hash T mb mt mD jH mo a0 l0 m c W nY hP h64 (hM.below hB) hmt lX (hT.below hB) hz);have HW:=qd hW;have HB:=qd hB;have dX:=qd (fun ap fp fs hap V hV=>ni tb gb e.key e.hash T ap fp fs hap V hV);unfold sF at dX;rw[hsk]at dX bM;rw[hfr]at bM;simp only[Option.map_none,dz,qh,Option.getD_none,Option.isSome_none]at dX bM;unfold cK aN dB at bM;unfold dB aW at dX;unfold cK aN aW;clear hW hB h hM;go_in;go_upto_region 1 with fail;rw[←HW.out];go_wp2_with fail;refine(bM.out).mono ?_;rintro x w1 ⟨ap,fp,rfl,hap,hfp,hM1,hm1⟩;obtain rfl:=hfp i s rfl;go_upto_region 2 with fail;have hS2:=aj.new w1 202 #[.pointer (some ⟨tb,0,none⟩),.int .u64 (e.key:Int),.int .u64 (e.hash:Int),.pointer ap,.int .i64 (-1),.pointer (some ⟨gb,i*25,none⟩),.int .i64 (s:Int)];have hb2:=(Below.refl w1.heap.size w1).alloc (Nat.le_refl _) (.cells #[.pointer (some ⟨tb,0,none⟩),.int .u64 (e.key:Int),.int .u64 (e.hash:Int),.pointer ap,.int .i64 (-1),.pointer (some ⟨gb,i*25,none⟩),.int .i64 (s:Int)] 202)
 obtain⟨w2,hw2⟩:∃w2,w2=w1.alloc (.cells #[.pointer (some ⟨tb,0,none⟩),.int .u64 (e.key:Int),.int .u64 (e.hash:Int),.pointer ap,.int .i64 (-1),.pointer (some ⟨gb,i*25,none⟩),.int .i64 (s:Int)] 202):=⟨_,rfl⟩;rw[←hw2]at hS2 hb2⊢;clear hw2;have jS:=(nY.mod hm1 (by simp;omega) (by simp;omega)).below hb2;have hM2:=hM1.below hb2;have hE2:=(hE.mod hm1 (by simp;omega)).below hb2 (hE.mod hm1 (by simp;omega)).lt;have hm2:=((Mod.of_below HB.out [mb,tb,gb]).then (hm1.more (by simp))).then (Mod.of_below hb2 [mb,tb,gb]);obtain⟨sp0,sp1,sp2,sp3,sp4,sp5,sp6⟩:=hS2.c7;clear nY hM1 hm1 hE hb2;go_wp2_with fail;refine(dX.out ap _ _ (fun _ _ hh=>by cases hh) w2 jS).mono ?_;rintro x w3 ⟨rfl,hb3⟩;have hb4:=bP ((Below.refl w3.heap.size w3).alloc (Nat.le_refl _) (.cells #[.int .u64 0,.int .u64 0,.int .u64 0] 148)) hb3;have KZ:=hS2.below hb4 hS2.lt;have hE4:=hE2.below hb4 hE2.lt;go_upto_region 5 with fail;obtain⟨w4,hw4⟩:∃w4,w4=w3.alloc (.cells #[.int .u64 0,.int .u64 0,.int .u64 0] 148):=⟨_,rfl⟩;rw[←hw4]at hb4 KZ hE4
 try rw[←hw4]
 clear hw4 hb3 hS2 hE2;have Du:=zJ T.gs hP.pos e.key e.hash i s hfr
 have Ao:s<8:=by have:=h8 i Du.1;omega
 have jB:=qd (BA tb gb ap T i s e Du.1 Ao h64 Du.2.2 hS hroom w4 (jS.below hb4));unfold dB aW at jB;have Fu:=qd (hM2.below hb4);have HM5:=qd (hm2.then (Mod.of_below hb4 [mb,tb,gb]));clear jS hM2 hm2 hb4;obtain⟨sq0,sq1,sq2,sq3,sq4,sq5,sq6⟩:=KZ.c7;obtain⟨eq0,eq1,eq2⟩:=hE4.c3;go_wp2_with fail;refine(jB.out).mono ?_;rintro x w5 ⟨rfl,rD,jC⟩;have HT5:=qd rD;have HM6:=qd (Fu.out.mod jC (by simp;omega));have HM7:=qd (HM5.out.then (jC.more (by simp)));clear rD jC;go_wp2;refine bodyPost_ret (v:= .tuple #[.bool true,.nilIface]) (by simp[results,Tryz.results310,go_sem]) rfl ⟨rfl,HT5.out,HM6.out,HM7.out⟩
end Go.Proofs.YtjfgpnapccdnlaaGreatDoor

/-! A function's Put and Pairs by their contracts. No statement of the claim. -/
namespace Go.Proofs.YtjfgpnapccdnlaaGreatDoor
set_option maxRecDepth 100000
set_option maxHeartbeats 4000000
open Go Go.RowKit dF Go.Shelf wF qw yS
variable {w : World} {base c n sz : Nat} {t : TypeId} {xs : List Value} {A : Option Addr} {l : PL}
theorem Q6 {g i:Nat}(h:w.ownsRow base t sz (.slice (some ⟨g,0,none⟩) n c) n xs)(u:Value):
  (w.setCell ⟨g,i,none⟩ u).ownsRow base t sz (.slice (some ⟨g,0,none⟩) n c) n (xs.set i u)∧Mod [g] w (w.setCell ⟨g,i,none⟩ u):=by
 rcases h.2 with⟨h2,_⟩|⟨g',cap,cur,hv,hg,hh,hcap,hmax,hsz,htk⟩
 ·cases h2
 ·injection hv with hv _ hc
  injection hv with hv
  injection hv with hv _ _
  subst hv hc;have hB:aj w g t cur:=hh;refine⟨⟨by rw[List.length_set];exact h.1,.inr ⟨g,c,_,rfl,hg,hB.ak i u,hcap,hmax,by simpa using hsz, ?_⟩⟩,(Mod.refl [g] w).ak (.inl (by simp)) i u⟩;rw[Array.toList_setIfInBounds,List.take_set,htk]
theorem JR (h:w.ownsRow base t sz (.slice A n c) n xs)(hn:0<n):∃g,A=some ⟨g,0,none⟩∧g<w.heap.size∧base≤g∧n≤c∧(∀i,w.frozen? ⟨g,i,none⟩=false):=by
 rcases h.2 with⟨h2,h0⟩|⟨g,cap,cur,hv,hg,hh,hcap,hmax,hsz,htk⟩
 ·omega
 ·injection hv with hv _ hc
  subst hv hc;exact⟨g,rfl,(Array.getElem?_eq_some_iff.1 hh).1,hg,hcap,fun i=>by simp[World.frozen?,hh]⟩
theorem WG {lo vb:Nat}{k v:Nat}{tv:TypeId}(ho:w.ownsRow base 49 2 (.slice A l.length c) l.length (l.flatMap bB))(hB:aj w vb tv #[.int .u64 (k:Int),.int .u64 (v:Int)])(hne:∀g,(Value.slice A l.length c).ownBlock=some g→vb≠g)(hlo:lo≤l.length)(hn:l.length≤100000)(hbw:base≤w.heap.size):
  Calls Tryz.prog 74 #[.slice A l.length c,.int .i64 (lo:Int),.slice (some ⟨vb,0,none⟩) 1 1] w (Gp base l.length (.slice A l.length c) ((l.take lo++(k,v)::l.drop lo).flatMap bB) w):=by
 have hxs:(l.take lo++(k,v)::l.drop lo).flatMap bB=(l.flatMap bB).take (lo*2)++([.int .u64 (k:Int),.int .u64 (v:Int)]++(l.flatMap bB).drop (lo*2)):=by
  rw[List.flatMap_append,List.flatMap_cons,TP,TQ];rfl
 rw[hxs];by_cases he:lo=l.length
 ·subst he;have h1:=TR ho hB hn hbw;rw[List.take_of_length_le (by rw[fC];omega),List.drop_of_length_le (by rw[fC];omega),List.append_nil];exact h1
 ·obtain⟨g,rfl,_,_,hc,_⟩:=JR ho (by omega);by_cases hr:l.length+1≤c
  ·exact Oa ho hB (hne g rfl) (by omega) hr (Db l)
  ·exact QX ho hB (by omega) (by omega) (Db l) hn hbw
theorem adb {most fb:Nat}{F:List Nat}(h:tK base w fb most F l)(hn:l.length≤90000)(key val:Nat)(hroom:qV l key=false→l.length<most)(hm:most≤100000):
  Calls Tryz.prog 39 #[.pointer (some ⟨fb,0,none⟩),.int .u64 (key:Int),.int .u64 (val:Int)] w fun y w'=>y= .returned .nilIface∧Y1 base w w' fb most F (nQ l key val):=by
 have HF:=qd (abX h (by omega) key);have hput:=Bf h.yX key val;obtain⟨v,hB,ho,rfl,hb,ha⟩:=h;obtain⟨A,c,rfl⟩:=aH ho;have hty:=abW ho hB (by decide);have hlow:=JI l key
 cases hi:qV l key with
 |true=>
  obtain⟨u,hu,hg⟩:=(EF ha).1 hi
  have hpp:nQ l key val=l.set (iy l key) (key,val):=by unfold nQ;rw[if_pos hi]
  rw[hpp]at hput⊢;rw[hi]at HF;obtain⟨lo,hlo⟩:∃lo,lo=iy l key:=⟨_,rfl⟩;rw[←hlo]at HF hu hput⊢;have hll:lo<l.length:=(List.getElem?_eq_some_iff.1 hu).1;have hset:=V5 hll key val (by rw[hu];rfl);obtain⟨g,rfl,hgl,hbg,hcl,_⟩:=JR ho (by omega)
  have hl':(lo:Int)<(l.length:Int):=by omega
  have hl0:(0:Int)≤(lo:Int):=by omega
  have HX:=qd (And.intro ho (And.intro hB (And.intro hty (And.intro hb (And.intro hput (And.intro hset hu))))));clear hi hg hlo ho hB hty hpp hput hset hroom ha hlow;go_in;go_wp2_with fail;refine HF.out.mono ?_;rintro y w1 ⟨rfl,hb1⟩;have ho1:=own_below HX.out.1 hb1 (Nat.le_refl _);have hB1:=HX.out.2.1.below hb1 HX.out.2.1.lt;have c1:=hB1.cell 1;simp only[gl]at c1;obtain⟨g2,off,hA2,agC,hc⟩:=(Reads.iC ho1).2 (by omega)
  injection hA2 with hA2
  injection hA2 with hA2 hA3 _
  subst hA2 hA3
  have r1:w1.cell? ⟨g,lo*2+1,none⟩=some (.int .u64 (u:Int)):=by have:=hc (lo*2+1) _ (eY HX.out.2.2.2.2.2.2 (by omega));rw[Nat.zero_add]at this;exact this
  have hfz:w1.frozen? ⟨g,lo*2+1,none⟩=false:=by
   obtain⟨g3,h3,_,_,_,h4⟩:=JR ho1 (by omega)
   injection h3 with h3
   injection h3 with h3 _ _
   subst h3;exact h4 _
  have HB1:=qd (And.intro hb1 (And.intro ho1 hB1));clear hb1 ho1 hB1 hc;go_wp2;go_ret;refine⟨rfl,_,⟨_,HB1.out.2.2.far (p:=⟨g,lo*2+1,none⟩) (fun e=>HX.out.2.2.1 (by simp[Value.ownBlock,e])) _, ?_,rfl,HX.out.2.2.2.1,HX.out.2.2.2.2.1⟩,fun q hq=> .inl hq, ?_⟩
  ·have h1:=(Q6 (i:=lo*2+1) HB1.out.2.1 (.int .u64 (val:Int))).1;rw[HX.out.2.2.2.2.2.1]at h1;rw[List.length_set];exact h1
  ·exact(Mod.of_below HB1.out.1 _).then ((Mod.refl _ _).ak (.inl (by simp[Value.ownBlock])) _ _)
 |false=>
  have hlm:=hroom hi
  have hpp:nQ l key val=l.take (iy l key)++(key,val)::l.drop (iy l key):=by unfold nQ;rw[if_neg (by rw[hi];simp)]
  rw[hpp]at hput⊢;rw[hi]at HF;obtain⟨lo,hlo⟩:∃lo,lo=iy l key:=⟨_,rfl⟩;rw[←hlo]at HF hput hlow⊢
  have hl':¬(most:Int)≤(l.length:Int):=by omega
  obtain⟨l2,hl2⟩:∃l2,l2=l.take lo++(key,val)::l.drop lo:=⟨_,rfl⟩
  have abj:l2.length=l.length+1:=by rw[hl2,List.length_append,List.length_cons,List.length_take,List.length_drop];omega
  rw[←hl2]at hput⊢;have HX:=qd (And.intro ho (And.intro hB (And.intro hty (And.intro hb (And.intro hput (And.intro hlow (And.intro hl2 abj)))))));clear hi hlo ho hB hty hpp hput hroom ha hlow hlm hl2 abj;go_in;go_wp2_with fail;refine HF.out.mono ?_;rintro y w1 ⟨rfl,hb1⟩;have ho1:=own_below HX.out.1 hb1 (Nat.le_refl _);have hB1:=HX.out.2.1.below hb1 HX.out.2.1.lt;obtain⟨c0,c1⟩:=hB1.c2;have HB1:=qd (And.intro hb1 (And.intro ho1 hB1));clear hb1 ho1 hB1;go_upto_region 5 with fail;go_region;go_upto_region 2 with fail;refine dx (F:=fun W=>Below w1.heap.size w1 W) (Below.refl _ _).drew ?_;rintro w2 hb2;have ho2:=own_below HB1.out.2.1 hb2 (Nat.le_refl _);have hB2:=HB1.out.2.2.below hb2 HB1.out.2.2.lt
  have hbs:base≤w2.heap.size:=by have:=HX.out.2.2.2.1;have:=hB2.lt;omega
  have hI:=fun(tv:TypeId)=>WG (lo:=lo) (k:=key) (v:=val) (w:=w2.alloc (.cells #[.int .u64 (key:Int),.int .u64 (val:Int)] tv)) (vb:=w2.heap.size) (ho2.alloc _) (aj.new w2 tv _) (fun g hg e=>by have:=(ho2.lt g hg).2;omega) HX.out.2.2.2.2.2.1 (by omega) (by simp;omega);rw[←HX.out.2.2.2.2.2.2.1]at hI;have HI:=qd hI;have HB2:=qd (And.intro (HB1.out.1.trans (hb2.mono HB1.out.1.size)) (And.intro ho2 hB2));replace c1:w2.cell? ⟨fb,1,none⟩=some (.slice A l.length c):=aA hb2 c1;clear hb2 ho2 hB2 hI HB1 c0;go_wp2_with fail;refine(HI.out _).mono ?_;rintro y w3 ⟨v',rfl,ho3,kL,hs3⟩;obtain⟨A',c',rfl⟩:=aH ho3;have hlt:fb<w2.heap.size:=HB2.out.2.2.lt;have hB3:aj w3 fb 154 #[.int .i64 (most:Int),.slice A l.length c]:=(HB2.out.2.2.alloc _).mod kL HX.out.2.2.1;have c1:=hB3.cell 1;have f1:=hB3.frozen 1;simp only[gl]at c1
  have hsz:w2.heap.size+1≤w3.heap.size:=by have:=kL.size;simpa using this
  have ade:fb∉(Value.slice A' (l.length+1) c').ownBlock.toList:=fun hq=>(hs3 fb hq).elim HX.out.2.2.1 (fun k=>by simp at k;omega)
  have HY:=qd (show Y1 base w (w3.setCell ⟨fb,1,none⟩ (.slice A' (l.length+1) c')) fb most (fb::(Value.slice A l.length c).ownBlock.toList) l2 from by
   have hm0:Mod (fb::(Value.slice A l.length c).ownBlock.toList) w w3:=((Mod.of_below HB2.out.1 _).alloc _).then (kL.more (fun q hq=>List.mem_cons_of_mem _ hq));refine⟨_,⟨_,hB3.ak 1 _, ?_,rfl,HX.out.2.2.2.1,HX.out.2.2.2.2.1⟩,fun q hq=> ?_,hm0.then ((Mod.refl _ _).ak (.inl (by simp)) _ _)⟩
   ·have hx:=HX.out.2.2.2.2.2.2.2;refine⟨by rw[fC], ?_⟩;rw[hx];rcases ho3.2 with k|⟨g,cap,cur,hv3,k2,k3,k4⟩
    ·exact .inl k
    ·refine .inr ⟨g,cap,cur,hv3,k2, ?_,k4⟩;exact(Below.heap_setCell w3 ⟨fb,1,none⟩ _ g (fun e=>ade (by rw[hv3];simp[Value.ownBlock,e]))).trans k3
   ·rcases List.mem_cons.1 hq with rfl|hq
    ·exact .inl (by simp)
    ·rcases hs3 q hq with k|k
     ·exact .inl (List.mem_cons_of_mem _ k)
     ·refine .inr ?_;have h1:=HB2.out.1.size;simp at k
      omega)
  clear hB3 ho3 kL hs3 ade;go_wp2;go_ret;exact⟨rfl,HY.out⟩
end Go.Proofs.YtjfgpnapccdnlaaGreatDoor

/-! A function's Pairs, and Same, by their contracts. No statement of the claim. -/
namespace Go.Proofs.YtjfgpnapccdnlaaGreatDoor
set_option maxRecDepth 100000
set_option maxHeartbeats 4000000
open Go Go.RowKit dF Go.Shelf wF qw yS
theorem Zz {base:Nat}{w:World}{l:PL}{v:Value}(ho:w.ownsRow base 49 2 v l.length (l.flatMap bB))(hn:l.length≤100000):
  Calls Tryz.prog 75 #[v] w fun y w'=>∃v',y= .returned v'∧w'.ownsRow w.heap.size 49 2 v' l.length (l.flatMap bB)∧Below w.heap.size w w':=by
 have q22:∀(w:World) (a:Option Addr) (n c n' c':Nat),(binOp .eql 22 (.slice a n c) (.slice none n' c')).run Tryz.prog w= .ok (.bool a.isNone) w:=fun w a n c n' c'=>Lib.run_eql_slice_nil w _ _ a n c n' c' Tryz.underlying22
 have mixed:Tryz.prog.follows Departure.mixedOrders=true:=by kernel_rfl
 rcases ho.2 with⟨rfl,h0⟩|⟨g,cap,cur,rfl,hbg,hh,hcap,hmax,hsz,htk⟩
 ·obtain rfl:l=[]:=List.length_eq_zero_iff.1 h0;clear ho h0 hn;go_in;go_wp2;go_ret;exact⟨_,rfl,World.ownsRow_nil _ _ _ _,Below.refl _ _⟩
 ·obtain⟨i0,hi0,hz0,hz1,hz2⟩:=info_parts uI;have HI:=qd (And.intro hi0 (And.intro hz0 (And.intro hz1 hz2)))
  have HC:=qd (show∀(w2:World) (o:Obj),w2=w.alloc o→∀(j:Nat) (u:Value),(l.flatMap bB)[j]?=some u→w2.cell? ((⟨g,0,none⟩:Addr).add j)=some u from by
   rintro w2 o rfl j u hj
   have hadd:(⟨g,0,none⟩:Addr).add j=⟨g,j,none⟩:=by unfold Addr.add;split<;>simp_all
   rw[hadd];refine Lib.cell?_alloc_some _ ?_;show(match w.heap[g]? with|some (.cells cs _ _)=>cs[j]?|_=>none)=_;rw[hh];rw[←htk,List.getElem?_take]at hj;split at hj
   ·simpa using hj
   ·cases hj)
  have H1:=qd (Db l);have HL:=qd (fC l);clear hi0 hz0 hz1 hz2 ho hh htk hsz hmax hbg;go_in;go_wp2_with (at_builtin;refine wpList_append_own _ rfl _ _ 22 rfl w.heap.size 49 i0 _ 2 16 Tryz.underlying22 HI.out.1 HI.out.2.1 HI.out.2.2.1 HI.out.2.2.2 rfl (by omega) _ _ _ rfl (World.ownsRow_made w #[] 0 (Nat.le_refl _) (Nat.zero_le _) (by simp)) ⟨g,0,none⟩ l.length cap (l.flatMap bB) rfl HL.out (HC.out _ _ rfl) H1.out (by unfold maxLen;omega) (by omega) (by simp) ?_;intro v' w1 hown hgrow hnil;have HP:=qd (show w1.ownsRow w.heap.size 49 2 v' l.length (l.flatMap bB)∧Below w.heap.size w w1 from⟨by simpa using hown,((Below.refl _ w).alloc (Nat.le_refl _) _).grown hgrow (by simp) (by intro k hk;cases hk;exact Nat.le_refl _)⟩);clear hown hgrow hnil);go_ret;exact⟨_,rfl,HP.out⟩
theorem ZA {base most fb:Nat}{F:List Nat}{w:World}{l:PL}(h:tK base w fb most F l)(hn:l.length≤100000):
  Calls Tryz.prog 40 #[.pointer (some ⟨fb,0,none⟩)] w fun y w'=>∃v',y= .returned v'∧w'.ownsRow w.heap.size 49 2 v' l.length (l.flatMap bB)∧Below w.heap.size w w':=by
 obtain⟨v,hB,ho,rfl,hb,ha⟩:=h;have HC:=qd (Zz ho hn);obtain⟨A,c,rfl⟩:=aH ho;have c1:=hB.cell 1;simp only[gl]at c1;clear hB ho ha;go_in;go_wp2_with fail;refine HC.out.mono ?_;rintro y w1 ⟨v',rfl,h1,h2⟩;have HP:=qd (And.intro h1 h2);clear h1 h2;go_wp2;go_ret;exact⟨_,rfl,HP.out⟩
end Go.Proofs.YtjfgpnapccdnlaaGreatDoor

/-! A snapshot's text and sum by their contracts. No statement of the claim. -/
namespace Go.Proofs.YtjfgpnapccdnlaaGreatDoor
set_option maxRecDepth 100000
set_option maxHeartbeats 4000000
open Go Go.RowKit dF Go.Shelf wF qw yS
variable {l : PL} {w : World} {A : Option Addr} {B c : Nat}
def wU (p:Nat×Nat):List UInt8:=(48::120::d9 p.1)++32::((48::120::d9 p.2)++[10])
def gW (l:PL):List UInt8:=l.flatMap wU
theorem IX {i:Nat}{p:Nat×Nat}(hp:l[i]?=some p):gW (l.take (i+1))=gW (l.take i)++wU p:=by
 unfold gW;rw[List.take_add_one,hp,List.flatMap_append];simp
theorem K4 (p:Nat×Nat):(wU p).length≤40:=by
 have h1:=j5 p.1;have h2:=j5 p.2;unfold wU;simp only[List.length_append,List.length_cons,List.length_nil];omega
theorem y9 (l:PL):(gW l).length≤l.length*40:=by
 unfold gW
 induction l with
 |nil=>simp
 |cons p l ih=>
  have:=K4 p;rw[List.flatMap_cons,List.length_append,List.length_cons];omega
theorem WH (a b:List UInt8)(p:Nat×Nat)(ha:a=48::120::d9 p.1)(hb:b=48::120::d9 p.2):((((⟨a.toArray⟩:ByteArray)++⟨#[32]⟩)++⟨b.toArray⟩)++⟨#[10]⟩).data.toList=wU p:=by
 subst ha hb;simp[ByteArray.data_append,wU]
theorem Dv (hl:Reads w B 2 A l.length (l.flatMap bB))(hn:l.length≤100000)(h64:∀p∈l,p.1<18446744073709551616∧p.2<18446744073709551616)(hT:w.cell? ⟨21,15,none⟩=some (.int .u8 4)):
  Calls Tryz.prog 6 #[.slice A l.length c] w fun y w'=>y= .returned (dN (gW l))∧Below w.heap.size w w':=by
 have HL:=qd hl;have HH:=qd (fun(n:Nat) (hn:n<18446744073709551616) (W:World) (hb:Below w.heap.size w W)=>KC n hn W (aA hb hT));have H64:=qd h64;have HB:=qd (show jV w.heap.size w.heap.size (gW (l.take 0)) (w.alloc (.cells #[.pointer none,.slice none 0 0] 53))∧Below w.heap.size w (w.alloc (.cells #[.pointer none,.slice none 0 0] 53))from⟨jV.new w,(Below.refl _ _).alloc (Nat.le_refl _) _⟩);clear hl hT h64;go_in;go_wp2;go_loopw [8] (fun i wr=>∃k:Nat,k≤l.length∧i= .int .i64 (k:Int)∧Hid (jV w.heap.size w.heap.size (gW (l.take k)) wr∧Below w.heap.size w wr)) (fun i _=>l.length-(intOf i).toNat)
 case atStart=>exact⟨0,by omega,rfl,HB⟩
 case round=>
  clear HB;obtain⟨i,hi,rfl,HB⟩:=hrel;by_cases hlt:i<l.length
  ·have hlt':(i:Int)<(l.length:Int):=by omega
   have hi0:(0:Int)≤(i:Int):=by omega
   have hwi:IntKind.i64.wrap ((i:Int)+1)=((i+1:Nat):Int):=by rw[IntKind.wrap_i64];omega
   obtain⟨p,hp⟩:∃p,l[i]?=some p:=⟨_,List.getElem?_eq_getElem hlt⟩;obtain⟨g,off,hA,hgl,hc⟩:=HL.out.2 (by omega);have r0:wr.cell? ⟨g,off+i*2,none⟩=some (.int .u64 (p.1:Int)):=aA HB.out.2 (hc (i*2+0) _ (eY hp (by omega)));have r1:wr.cell? ⟨g,off+i*2+1,none⟩=some (.int .u64 (p.2:Int)):=aA HB.out.2 (hc (i*2+1) _ (eY hp (by omega)));have HP:=qd (And.intro hp (H64.out p (List.mem_of_getElem? hp)));have mO:=qd (IX hp);have HLen:=qd (show(gW (l.take i)).length≤33554432 from by have:=y9 (l.take i);rw[List.length_take]at this;omega);subst hA;clear hc hp;go_upto_region 5 with fail;refine dx (F:=fun v=>aj v wr.heap.size 49 #[.int .u64 (p.1:Int),.int .u64 (p.2:Int)]∧Below wr.heap.size wr v) ⟨aj.new wr 49 #[.int .u64 (p.1:Int),.int .u64 (p.2:Int)],(Below.refl wr.heap.size wr).alloc (Nat.le_refl _) _⟩ ?_;rintro w6 ⟨kE,hb6⟩;have kM:=qd (And.intro (HB.out.1.below hb6) (HB.out.2.trans (hb6.mono HB.out.2.size)));obtain⟨bx,hbx⟩:∃bx,bx=wr.heap.size:=⟨_,rfl⟩;rw[←hbx]at kE⊢;have HX6:=qd kE;have x:=kE.c2;clear kE hb6 hbx HB r0 r1;refine rT (fun(w':World)=>w'.cell? ⟨bx,0,none⟩=some (.int .u64 (p.1:Int))∧w'.cell? ⟨bx,1,none⟩=some (.int .u64 (p.2:Int))) [] ?_;have hHeld:=And.intro x.1 x.2;refine vW 0 rfl ?_;refine vT 1 rfl ?_;refine vW 4 rfl ?_;refine vT 5 rfl ?_;obtain⟨s1,hs1⟩:∃s1:ByteArray,s1=⟨(48::120::d9 p.1:List UInt8).toArray⟩:=⟨_,rfl⟩;obtain⟨s2,hs2⟩:∃s2:ByteArray,s2=⟨(48::120::d9 p.2:List UInt8).toArray⟩:=⟨_,rfl⟩
   have gD:=qd (fun(W:World) (hb:Below w.heap.size w W)=>show Calls Tryz.prog 17 #[.int .u64 (p.1:Int)] W (fun e w'=>e= .returned (.string s1)∧Below W.heap.size W w')from by have:=HH.out p.1 HP.out.2.1 W hb;unfold dN at this;rw[hs1];exact this);have HS2:=qd (fun(W:World) (hb:Below w.heap.size w W)=>show Calls Tryz.prog 17 #[.int .u64 (p.2:Int)] W (fun e w'=>e= .returned (.string s2)∧Below W.heap.size W w')from by have:=HH.out p.2 HP.out.2.2 W hb;unfold dN at this;rw[hs2];exact this);obtain⟨s3,hs3⟩:∃s3,s3=((s1++⟨#[32]⟩)++s2)++⟨#[10]⟩:=⟨_,rfl⟩;have kN:=qd hs3;have oO:=qd (show s3.data.toList=wU p from by rw[hs3,hs1,hs2];exact WH _ _ p rfl rfl)
   have hz:s1.size≤40∧s2.size≤40:=by
    have h1:=j5 p.1;have h2:=j5 p.2
    have e1:s1.size=(48::120::d9 p.1:List UInt8).length:=by rw[hs1];rfl
    have e2:s2.size=(48::120::d9 p.2:List UInt8).length:=by rw[hs2];rfl
    rw[e1,e2,List.length_cons,List.length_cons,List.length_cons,List.length_cons];omega
   have hz1:¬9223372036854775807<s1.size+1:=by omega
   have hz2:¬9223372036854775807<s1.size+1+s2.size:=by omega
   have hz3:¬9223372036854775807<s1.size+1+s2.size+1:=by omega
   clear hs1 hs2 hs3 hz;refine nT 2 rfl fun K hK=> ?_;go_simp;refine(gD.out _ kM.out.2.drew).mono ?_;rintro y w7 ⟨rfl,kF⟩;have nZ:=qd (And.intro ((kM.out.1.below (Below.refl _ _).drew).below kF) (kM.out.2.drew.trans (kF.mono kM.out.2.size)));have HX7:=qd ((HX6.out.drew).below kF HX6.out.lt);have x:=HX7.out.c2;clear kF;go_wp2_with fail;have hHeld:=And.intro x.1 x.2;refine kO hK ?_;clear hK K;refine vW 3 rfl ?_;refine nT 6 rfl fun K hK=> ?_;go_simp;refine(HS2.out _ nZ.out.2).mono ?_;rintro y w8 ⟨rfl,ig⟩;have pR:=qd (And.intro (nZ.out.1.below ig) (nZ.out.2.trans (ig.mono nZ.out.2.size)));have HX8:=qd (HX7.out.below ig HX7.out.lt);have x:=HX8.out.c2;clear ig;go_wp2_with fail;have hHeld:=And.intro x.1 x.2;refine kO hK ?_;clear hK K;refine vW 7 rfl ?_;refine vW 8 rfl ?_;refine nT 9 rfl fun K hK=> ?_;go_simp;rw[←kN.out]
   have hsl:s3.size≤33554432:=by
    have h1:=K4 p
    have h2:s3.size=s3.data.toList.length:=by rw[Array.length_toList];rfl
    rw[h2,oO.out];omega
   refine(MI _ _ _ s3 _ pR.out.1 HLen.out hsl).mono ?_;rintro y w9 ⟨rfl,ZB,xV,hk9⟩;have hX9:=hk9 bx _ _ HX8.out (by decide) (by decide);have x:=hX9.c2;clear hX9 hk9;rw[oO.out,←mO.out]at ZB;have wI:=qd (And.intro ZB (pR.out.2.trans xV));clear ZB xV;go_wp2_with fail;have hHeld:=And.intro x.1 x.2;refine kO hK ?_;clear hK K;refine aX (by kernel_rfl) ?_ _;have HM:=qd (show l.length-(i+1)<l.length-i by omega);go_wp2;go_roundw
   case measure=>simp[intOf];exact HM.out
   exact⟨i+1,by omega,rfl,wI⟩
  ·obtain rfl:i=l.length:=by omega
   have hlt':¬(l.length:Int)<(l.length:Int):=by omega
   have hb:=HB.out;rw[List.take_of_length_le (Nat.le_refl _)]at hb;have HS:=qd (Tryz.Builder_String_any w.heap.size w.heap.size (gW l) wr hb.1 hb.1.le);have HB2:=qd hb.2;clear hb;go_wp2_with (go_at_call 18;refine HS.out.mono ?_;rintro e w1 ⟨rfl,hb1⟩);go_ret;exact⟨rfl,HB2.out.trans hb1⟩
def JU (s:ByteArray):Nat→Int
 |0=>14695981039346656037
 |i+1=>IntKind.u64.wrap (bits .xor .u64 (JU s i) ((s.data.toList.getD i 0).toNat:Int)*1099511628211)
theorem ZC (hl:Reads w B 2 A l.length (l.flatMap bB))(hn:l.length≤100000)(h64:∀p∈l,p.1<18446744073709551616∧p.2<18446744073709551616)(hT:w.cell? ⟨21,15,none⟩=some (.int .u8 4)):
  Calls Tryz.prog 8 #[.slice A l.length c] w fun y w'=>y= .returned (.int .u64 (JU ⟨(gW l).toArray⟩ (gW l).length))∧Below w.heap.size w w':=by
 have HX:=qd (Dv (c:=c) hl hn h64 hT);have hlen:=y9 l;obtain⟨s,hs⟩:∃s:ByteArray,s=⟨(gW l).toArray⟩:=⟨_,rfl⟩;obtain⟨n,hN⟩:∃n,n=(gW l).length:=⟨_,rfl⟩
 have hsn:s.size=n:=by rw[hs,hN];exact List.size_toArray
 unfold dN at HX;rw[←hs]at HX⊢;rw[←hN]at hlen⊢;obtain⟨S,hS⟩:∃S,S=JU s:=⟨_,rfl⟩;have HS:=qd (show S 0=14695981039346656037∧∀i,S (i+1)=IntKind.u64.wrap (bits .xor .u64 (S i) ((s.data.toList.getD i 0).toNat:Int)*1099511628211)from by rw[hS];exact⟨rfl,fun i=>rfl⟩);rw[←hS];clear hl h64 hT hs hN hS;go_in;go_wp2_with fail;refine HX.out.mono ?_;rintro y w1 ⟨rfl,hb1⟩;obtain⟨c2,W,hcv,hbW,hltW,hcells⟩:=wO w1 9 51 5 s Tryz.underlying9 Tryz.underlying51 Tryz.underlying5;rw[hsn]at hcv;obtain⟨g,hg⟩:∃g,g=w1.heap.size:=⟨_,rfl⟩;have HB:=qd (hb1.trans (hbW.mono hb1.size));rw[←hg]at hcv hcells
 have HC:=qd (show∀i,i<n→W.cell? ⟨g,i,none⟩=some (.int .u8 ((s.data.toList.getD i 0).toNat:Int))from fun i hi=>by
  rw[hcells i (by omega)];congr 2;rw[List.getD_eq_getElem?_getD,List.getElem?_eq_getElem (by rw[Array.length_toList];exact(show i<s.size by omega))]
  rfl)
 clear hb1 hbW hltW hcells hg HX;go_wp2;go_loopw [3,10] (fun v3 v10 wr=>∃i:Nat,i≤n∧v10= .int .i64 (i:Int)∧v3= .int .u64 (S i)∧W=wr) (fun _ v10 _=>n-(intOf v10).toNat)
 case atStart=>exact⟨0,by omega,rfl,by rw[HS.out.1],rfl⟩
 case round=>
  obtain⟨i,hi,rfl,rfl,rfl⟩:=hrel;by_cases hlt:i<n
  ·have hlt':(i:Int)<(n:Int):=by omega
   have hi0:(0:Int)≤(i:Int):=by omega
   have hwi:IntKind.i64.wrap ((i:Int)+1)=((i+1:Nat):Int):=by rw[IntKind.wrap_i64];omega
   obtain⟨bt,hbt⟩:∃bt:Nat,bt=(s.data.toList.getD i 0).toNat:=⟨_,rfl⟩
   have ig:bt<256:=by rw[hbt];exact UInt8.toNat_lt _
   have r0:=HC.out i hlt;have hst:=HS.out.2 i;rw[←hbt]at r0 hst
   have hwb:IntKind.u64.wrap (bt:Int)=(bt:Int):=by rw[IntKind.wrap_u64];omega
   have jT:=qd hst;clear hst hbt;go_wp2;go_roundw
   case measure=>simp[intOf];omega
   exact⟨i+1,by omega,rfl,by rw[jT.out],trivial⟩
  ·obtain rfl:i=n:=by omega
   have hlt':¬(i:Int)<(i:Int):=by omega
   go_wp2;go_ret;exact⟨rfl,HB.out⟩
end Go.Proofs.YtjfgpnapccdnlaaGreatDoor

/-! A snapshot's text, split into words again. No program in sight. -/
namespace Go.Proofs.YtjfgpnapccdnlaaGreatDoor
set_option maxRecDepth 100000
set_option maxHeartbeats 4000000
open Go Go.RowKit dF Go.Shelf wF qw yS
def adf (p:Nat×Nat):List (List UInt8):=[48::120::d9 p.1,48::120::d9 p.2]
def afX (l:PL):List (Nat×List (List UInt8)):=l.map fun p=>(0,adf p)
end Go.Proofs.YtjfgpnapccdnlaaGreatDoor

/-! words.fine and words.Split by their contracts: line by line, as goSplit. -/
namespace Go.Proofs.YtjfgpnapccdnlaaGreatDoor
set_option maxRecDepth 100000
set_option maxHeartbeats 4000000
open Go Go.RowKit dF Go.Shelf wF qw yS
theorem Ui (l:(List UInt8))(k:Nat)(h:k<l.length):gH (l.take (k+1))=(gH (l.take k) && nW l[k]):=by
 unfold gH;rw[List.take_succ_eq_append_getElem h,List.all_append];simp
theorem K5 (b:UInt8):nW b=true↔¬((b.toNat:Int)<32)∧¬(126:Int)<(b.toNat:Int):=by
 unfold nW;have e1:(32:UInt8).toNat=32:=rfl;have e2:(126:UInt8).toNat=126:=rfl;simp only[Bool.and_eq_true,decide_eq_true_eq,UInt8.le_iff_toNat_le];omega
theorem IY (s:ByteArray)(w:World)(hs:s.size≤70000):
  Calls Tryz.prog 46 #[.string s] w fun e w'=>e= .returned (.bool (gH s.data.toList))∧Below w.heap.size w w':=by
 have hlen:s.data.toList.length=s.size:=by simp
 obtain⟨c,W,Tv,hB,hlt,hcell⟩:=wO (P:=Tryz.prog) w 9 51 5 s Tryz.underlying9 Tryz.underlying51 Tryz.underlying5;have HC:=qd hcell;clear hcell;go_in;go_wp2;go_loop [4,8] (fun _ i=>∃k:Nat,k≤s.size∧i= .int .i64 k∧gH (s.data.toList.take k)=true) (fun _ i=>s.size-(intOf i).toNat)
 case atStart=>exact⟨0,by omega,rfl,rfl⟩
 case round=>
  obtain⟨k,hk,rfl,hf⟩:=hrel;by_cases hkl:k<s.size
  ·have hc:=HC.out k hkl;have ht:=Ui s.data.toList k (by omega);have hg:s.data.toList[k]'(by omega)=s[k]:=rfl;rw[hf,Bool.true_and,hg]at ht;have Ht:=qd ht;have Hf:=qd hf;clear ht hf hg
   cases hfc:nW s[k]with
   |true=>
    have oh:=(K5 _).1 hfc;have b1:=oh.1;have b2:=oh.2;have Hfc:=qd hfc;clear hfc oh;go_wp2;go_round
    case rel=>exact⟨k+1,by omega,by go_num,by rw[Ht.out];exact Hfc.out⟩
    case measure=>simp[intOf];omega
   |false=>
    have hres:gH s.data.toList=false:=by
     have h2:gH (s.data.toList.take (k+1))=false:=by rw[Ht.out];exact hfc
     unfold gH at h2⊢;rw[List.all_eq_false]at h2⊢;obtain⟨x,hx,hx2⟩:=h2;exact⟨x,List.mem_of_mem_take hx,hx2⟩
    have hn:((s[k]).toNat:Int)<32∨(126:Int)<((s[k]).toNat:Int):=by
     by_cases h:((s[k]).toNat:Int)<32
     ·exact .inl h
     ·refine .inr (Int.lt_of_not_ge fun h2=> ?_);have:=(K5 s[k]).2 ⟨by omega,by omega⟩;rw[this]at hfc;cases hfc
    have adg:=qd hres;clear hres hfc;rcases hn with hn|hn
    ·go_wp2;go_ret;exact⟨jl adg.out.symm,hB⟩
    ·have hn':¬((s[k]).toNat:Int)<32:=by omega
     go_wp2;go_ret;exact⟨jl adg.out.symm,hB⟩
  ·have hfl:gH s.data.toList=true:=by rwa [List.take_of_length_le (by omega)]at hf
   have IZ:=qd hfl;clear hfl hf;go_wp2;go_ret;exact⟨jl IZ.out.symm,hB⟩
end Go.Proofs.YtjfgpnapccdnlaaGreatDoor

/-! words.Split by its contract: line by line, as goSplit. -/
namespace Go.Proofs.YtjfgpnapccdnlaaGreatDoor
set_option maxRecDepth 100000
set_option maxHeartbeats 4000000
open Go Go.RowKit dF Go.Shelf wF qw yS
variable {l : (List UInt8)} {E : Nat → Addr} {w w' : World}
def uM (l:(List UInt8))(b:ByteArray):Prop:=b.data.toList=l
theorem za (s:ByteArray)(w:World)(hs:s.size≤70000)(hl:uM l s)(h:gH l=true):
  Calls Tryz.prog 46 #[.string s] w fun e w'=>e= .returned (.bool true)∧Below w.heap.size w w':=(IY s w hs).mono fun _ _ ⟨he,hb⟩=>⟨by unfold uM at hl;rw[he,hl,h],hb⟩
theorem Gs (s:ByteArray)(w:World)(hs:s.size≤70000)(hl:uM l s)(h:gH l=false):
  Calls Tryz.prog 46 #[.string s] w fun e w'=>e= .returned (.bool false)∧Below w.heap.size w w':=(IY s w hs).mono fun _ _ ⟨he,hb⟩=>⟨by unfold uM at hl;rw[he,hl,h],hb⟩
def ab6 (w:World)(l:(List UInt8))(e:Ending)(w':World):Prop:=∃(b:ByteArray) (r2:Value) (r3:Bool) (n:Nat),uM l b∧e= .returned (.tuple #[.string b,r2,.bool r3])∧w.drewN n=w'
theorem WI (s:ByteArray)(m:Int)(w:World)(hs:s.size<4294967281)(hm:w.cell? ⟨19,0,none⟩=some (.int .i64 m)):
  Calls Tryz.prog 45 #[.string s,.string ⟨#[35]⟩] w (ab6 w (body s.data.toList)):=
 (Tryz.strings_Cut s ⟨#[35]⟩ m w hs hm).mono fun e w' ⟨he,n,hn⟩=>⟨_,_,_,n,by unfold uM;rw[←Yx],he,hn.symm⟩
theorem Dw (b:ByteArray)(l:(List UInt8))(w:World)(hb:uM l b)(hs:b.size<4294967281)(hf:gH l=true)(htab:Lib.TabIs Tryz.prog w "strings.asciiSpace" .u8 Lib.asciiSpaceTab):
  Calls Tryz.prog 47 #[.string b] w fun e w'=>e= .returned (.slice (some ⟨w.heap.size,0,none⟩) (Lib.fields l).length (Lib.fields l).length)∧w.alloc (.cells ((Lib.fields l).map dN).toArray 9)=w':=by
 unfold uM at hb;subst hb;exact(Tryz.strings_Fields b w hs (fun j x hx=>Tj hf j x hx) htab).mono fun e w' ⟨he,hw⟩=>⟨he,hw.symm⟩
structure fK (E:Nat→Addr)(w:World):Prop where
 e3:dL E w 3
 e9:dL E w 9
 max:∃m,w.cell? ⟨19,0,none⟩=some (.int .i64 m)
 tab:Lib.TabIs Tryz.prog w "strings.asciiSpace" .u8 Lib.asciiSpaceTab
theorem adh:Tryz.prog.globalNamed "strings.asciiSpace" =some 16 :=by kernel_rfl
theorem fK.of_block (h:fK E w)(hb:∀k,k<w.heap.size→w'.heap[k]?=w.heap[k]?):fK E w':=by
 refine⟨h.e3.of_block hb,h.e9.of_block hb, ?_, ?_⟩
 ·obtain⟨m,hm⟩:=h.max;exact⟨m,(World.cell?_of_block (hb _ (World.block_lt_of_cell? w _ hm))).trans hm⟩
 ·have:=h.tab;unfold Lib.TabIs World.var? at this⊢;simp only[adh,Option.bind_some]at this⊢
  have hlt:16 <w.heap.size:=by
   rcases Nat.lt_or_ge 16 w.heap.size with h1|h1
   ·exact h1
   ·simp[Array.getElem?_eq_none h1]at this
  rw[hb _ hlt];exact this
theorem fK.below {B:Nat}(h:fK E w)(hb:Below B w w')(hB:w.heap.size≤B):fK E w':=h.of_block fun k hk=>hb.block k (by omega)
theorem fK.alloc (h:fK E w)(o:Obj):fK E (w.alloc o):=h.of_block fun k hk=>Below.heap_alloc w o k hk
theorem fK.drewN (h:fK E w)(n:Nat):fK E (w.drewN n):=h.of_block fun _ _=>rfl
def WJ (E:Nat→Addr)(w:World)(r:CF)(e:Ending)(w':World):Prop:=
 match r with
 | .bad n=>e= .returned (.tuple #[.slice none 0 0,.int .i64 (n:Int),.iface 391 (.pointer (some (E 3)))])∧Below w.heap.size w w'
 | .ok l=>∃v,e= .returned (.tuple #[v,.int .i64 0,.nilIface])∧dU w' w.heap.size v l∧Below w.heap.size w w'
end Go.Proofs.YtjfgpnapccdnlaaGreatDoor
