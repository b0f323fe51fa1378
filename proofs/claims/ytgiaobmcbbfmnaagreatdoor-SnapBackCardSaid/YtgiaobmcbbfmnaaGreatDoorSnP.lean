/- Where a seek ends: the places are of the table. No program in sight. -/
import Derived.Test.YtgiaobmcbbfmnaaGreatDoorTabS
import Derived.Test.YtgiaobmcbbfmnaaGreatDoorCoV
import Derived.Test.YtgiaobmcbbfmnaaGreatDoorKit2
import Derived.Test.YtgiaobmcbbfmnaaGreatDoorSq
import Derived.Test.YtgiaobmcbbfmnaaGreatDoorErrs
import Derived.Laws.StructEq
import Derived.Test.YtgiaobmcbbfmnaaGreatDoorBuilder
import Derived.Test.YtgiaobmcbbfmnaaGreatDoorSqT
namespace Go.Proofs.YtgiaobmcbbfmnaaGreatDoor.dw
set_option maxRecDepth 100000
set_option maxHeartbeats 4000000
open Go Go.RowKit dw Go.Shelf lY jY EP
theorem Tv {G:kH}{s:Nat}(h:kP G=some s):s<G.length∧(G.getD s .empty).isFull=false:=by
 obtain⟨hk,hp,_⟩:=List.findIdx?_eq_some_iff_getElem.1 h;refine⟨hk, ?_⟩;rw[getD_in hk];simpa using hp
def Dp (gs:Tab)(x:Option (Nat×Nat)):Prop:=∀i s,x=some (i,s)→i<gs.length∧s<(gs.getD i []).length∧(aF gs i s).isFull=false
theorem VQ {gs:Tab}{fr:Option (Nat×Nat)}(h:Dp gs fr){i:Nat}(hi:i<gs.length):Dp gs (iB fr i (gs.getD i [])):=by
 intro a b hab
 cases fr with
 |some x=>exact h a b hab
 |none=>
  unfold iB at hab;dsimp only at hab
  cases hg:kP (gs.getD i [])with
  |none=>rw[hg]at hab;cases hab
  |some s=>
   rw[hg]at hab;cases hab;exact⟨hi,Tv hg⟩
theorem KI (gs:Tab)(key hash:Nat):∀(l:List Nat) (fr:Option (Nat×Nat)),(∀i∈l,i<gs.length)→Dp gs fr→Dp gs (jJ gs key hash l fr).2.1
 | [],_,_,h=>h
 |i::is,fr,hl,h=>by
  have h1:=VQ h (hl i (by simp));have ih:=KI gs key hash is _ (fun x hx=>hl x (by simp[hx])) h1;rw[jJ]
  cases gF (gs.getD i []) key hash with
  |some s=>exact h1
  |none=>
   cases dB (gs.getD i [])with
   |true=>exact h1
   |false=>exact ih
theorem walk_lt {h n i:Nat}(hn:0<n)(hi:i∈walk h n):i<n:=by
 obtain⟨j,_,rfl⟩:=List.mem_map.1 hi;exact Nat.mod_lt _ hn
theorem zG (gs:Tab)(hn:0<gs.length)(key hash:Nat):Dp gs (aJ gs key hash).2.1:=by
 rw[y9];exact KI gs key hash _ none (fun i hi=>walk_lt hn hi) (fun _ _ h=>by cases h)
theorem Dq {gs:Tab}{key hash i s:Nat}(h:(aJ gs key hash).1=some (i,s)):∃e,aF gs i s= .full e∧e.key=key∧i<gs.length∧s<(gs.getD i []).length:=by
 obtain⟨e,h1,h2,_⟩:=H9 h;have:=jZ (gs:=gs) (i:=i) (s:=s) (by rw[h1];simp);exact⟨e,h1,h2,this⟩
end Go.Proofs.YtgiaobmcbbfmnaaGreatDoor.dw

/-! A table's Find, Put, Delete by their contracts. -/
namespace Go.Proofs.YtgiaobmcbbfmnaaGreatDoor
set_option maxRecDepth 100000
set_option maxHeartbeats 4000000
open Go Go.RowKit dw Go.Shelf lY jY EP
theorem dI {p F:World→Prop}{w:World}(h:F w)(h2:∀v,F v→p v):p w:=h2 w h
theorem gL.below {w w':World}(h:gL w)(hb:Below w.heap.size w w'):gL w':=fun i hi=>aA hb (h i hi)
theorem gL.mod {S:List Nat}{w w':World}(h:gL w)(hm:Mod S w w')(hs:25 ∉S):gL w':=fun i hi=>
 (hm.cell_ (p:=⟨25,pJ i,none⟩) (World.block_lt_of_cell? w _ (h i hi)) hs).trans (h i hi)
def sK (gs:Tab)(key hash:Nat):Option ay:=(aJ gs key hash).1.map fun x=>(aF gs x.1 x.2).ent
def qg (o:Option ay):Value:= .tuple #[aW (o.getD ⟨0,0,0⟩),.bool o.isSome]
theorem mX (tb gb key hash:Nat)(T:aD)(ap fp:Option Addr)(fs:Int)(hap:gM gb (aJ T.gs key hash).1 ap)(w:World)(h:TabAt w tb gb T):
  Calls Tryz.prog 97 #[dD tb key hash ap (dA (aJ T.gs key hash).1) fp fs] w fun x w'=>x= .returned (qg (sK T.gs key hash))∧Below w.heap.size w w':=by
 unfold sK qg
 cases hs:(aJ T.gs key hash).1 with
 |none=>exact Iy tb key hash ap fp fs w
 |some x=>
  obtain⟨i,s⟩:=x;obtain⟨e,h1,_,h3,h4⟩:=Dq hs;obtain rfl:=hap i s hs;have:=Iz tb key hash gb fp fs T i s h3 (by have:=h.wide.at_ h3;omega) e h1 w h;simpa[dA,h1,Slot.ent]using this
theorem Mi (tb gb:Nat)(T:aD)(mb:Nat)(mt:TypeId)(lF jh:List Value)(mo:Nat)(a0 l0:bE)(m:Int)(c:bE)(e:ay)(w:World)(h:TabAt w tb gb T)(hP:Pw T.gs.length)(h64:e.hash<18446744073709551616)(hM:Met w mb mt lF jh mo a0 l0 m)(hmt:mb≠tb)(lM:mb≠gb)(hT:gL w)(hz:25 ≠mb)(hsk:(aJ T.gs e.key e.hash).1=none)(i s:Nat)(hfr:(aJ T.gs e.key e.hash).2.1=some (i,s))(hS:Small T)(hroom:T.live+T.bO+1≤7*(T.gs.length:Int)):
  Calls Tryz.prog 304 #[cO tb,aM (some ⟨mb,mo,none⟩) c,aW e] w fun x w'=>x= .returned (.tuple #[.bool true,.nilIface])∧TabAt w' tb gb (jm T i s e)∧Met w' mb mt lF jh mo (fK a0 c (aJ T.gs e.key e.hash).2.2) (fK l0 c (aJ T.gs e.key e.hash).2.2) m∧Mod [mb,tb,gb] w w':=by
 obtain⟨W,hW,hB,hL,hE⟩:=qQ w 150 #[.pointer (some ⟨mb,mo,none⟩),.int .i64 c.p,.int .i64 c.v,.int .i64 c.u] 153 #[.int .u64 (e.key:Int),.int .u64 (e.val:Int),.int .u64 (e.hash:Int)];obtain⟨N9,Oa,Ob,Oc⟩:=hL.c4;obtain⟨e0,e1,e2⟩:=hE.c3;have hml:=hM.lt;have htl:=h.aU;have hgl:=h.aV;have nV:=h.below hB;have h8:=fun i hi=>h.wide.at_ (i:=i) hi;have bM:=qd (IB tb gb e.key e.hash T mb mt lF jh mo a0 l0 m c W nV hP h64 (hM.below hB) hmt lM (hT.below hB) hz);have HW:=qd hW;have HB:=qd hB;have dF:=qd (fun ap fp fs hap V hV=>mX tb gb e.key e.hash T ap fp fs hap V hV);unfold sK at dF;rw[hsk]at dF bM;rw[hfr]at bM;simp only[Option.map_none,dA,qg,Option.getD_none,Option.isSome_none]at dF bM;unfold cO aM dD at bM;unfold dD aW at dF;unfold cO aM aW;clear hW hB h hM;go_in;go_upto_region 1 with fail;rw[←HW.out];go_wp2_with fail;refine(bM.out).mono ?_;rintro x w1 ⟨ap,fp,rfl,hap,hfp,hM1,hm1⟩;obtain rfl:=hfp i s rfl;go_upto_region 2 with fail;have hS2:=aj.new w1 206 #[.pointer (some ⟨tb,0,none⟩),.int .u64 (e.key:Int),.int .u64 (e.hash:Int),.pointer ap,.int .i64 (-1),.pointer (some ⟨gb,i*25,none⟩),.int .i64 (s:Int)];have hb2:=(Below.refl w1.heap.size w1).alloc (Nat.le_refl _) (.cells #[.pointer (some ⟨tb,0,none⟩),.int .u64 (e.key:Int),.int .u64 (e.hash:Int),.pointer ap,.int .i64 (-1),.pointer (some ⟨gb,i*25,none⟩),.int .i64 (s:Int)] 206)
 obtain⟨w2,hw2⟩:∃w2,w2=w1.alloc (.cells #[.pointer (some ⟨tb,0,none⟩),.int .u64 (e.key:Int),.int .u64 (e.hash:Int),.pointer ap,.int .i64 (-1),.pointer (some ⟨gb,i*25,none⟩),.int .i64 (s:Int)] 206):=⟨_,rfl⟩;rw[←hw2]at hS2 hb2⊢;clear hw2;have jK:=(nV.mod hm1 (by simp;omega) (by simp;omega)).below hb2;have hM2:=hM1.below hb2;have hE2:=(hE.mod hm1 (by simp;omega)).below hb2 (hE.mod hm1 (by simp;omega)).lt;have hm2:=((Mod.of_below HB.out [mb,tb,gb]).then (hm1.more (by simp))).then (Mod.of_below hb2 [mb,tb,gb]);obtain⟨sp0,sp1,sp2,sp3,sp4,sp5,sp6⟩:=hS2.c7;clear nV hM1 hm1 hE hb2;go_wp2_with fail;refine(dF.out ap _ _ (fun _ _ hh=>by cases hh) w2 jK).mono ?_;rintro x w3 ⟨rfl,hb3⟩;have hb4:=bQ ((Below.refl w3.heap.size w3).alloc (Nat.le_refl _) (.cells #[.int .u64 0,.int .u64 0,.int .u64 0] 153)) hb3;have ze:=hS2.below hb4 hS2.lt;have hE4:=hE2.below hb4 hE2.lt;go_upto_region 5 with fail;obtain⟨w4,hw4⟩:∃w4,w4=w3.alloc (.cells #[.int .u64 0,.int .u64 0,.int .u64 0] 153):=⟨_,rfl⟩;rw[←hw4]at hb4 ze hE4
 try rw[←hw4]
 clear hw4 hb3 hS2 hE2;have Dr:=zG T.gs hP.pos e.key e.hash i s hfr
 have Ap:s<8:=by have:=h8 i Dr.1;omega
 have jo:=qd (Bu tb gb ap T i s e Dr.1 Ap h64 Dr.2.2 hS hroom w4 (jK.below hb4));unfold dD aW at jo;have E8:=qd (hM2.below hb4);have HM5:=qd (hm2.then (Mod.of_below hb4 [mb,tb,gb]));clear jK hM2 hm2 hb4;obtain⟨sq0,sq1,sq2,sq3,sq4,sq5,sq6⟩:=ze.c7;obtain⟨eq0,eq1,eq2⟩:=hE4.c3;go_wp2_with fail;refine(jo.out).mono ?_;rintro x w5 ⟨rfl,oH,jq⟩;have HT5:=qd oH;have HM6:=qd (E8.out.mod jq (by simp;omega));have HM7:=qd (HM5.out.then (jq.more (by simp)));clear oH jq;go_wp2;refine bodyPost_ret (v:= .tuple #[.bool true,.nilIface]) (by simp[results,Tryz.results304,go_sem]) rfl ⟨rfl,HT5.out,HM6.out,HM7.out⟩
end Go.Proofs.YtgiaobmcbbfmnaaGreatDoor

/-! A function's Put and Pairs by their contracts. No statement of the claim. -/
namespace Go.Proofs.YtgiaobmcbbfmnaaGreatDoor
set_option maxRecDepth 100000
set_option maxHeartbeats 4000000
open Go Go.RowKit dw Go.Shelf lY jY EP
variable {w : World} {base c n sz : Nat} {t : TypeId} {xs : List Value} {A : Option Addr} {l : PL}
theorem QK {g i:Nat}(h:w.ownsRow base t sz (.slice (some ⟨g,0,none⟩) n c) n xs)(u:Value):
  (w.setCell ⟨g,i,none⟩ u).ownsRow base t sz (.slice (some ⟨g,0,none⟩) n c) n (xs.set i u)∧Mod [g] w (w.setCell ⟨g,i,none⟩ u):=by
 rcases h.2 with⟨h2,_⟩|⟨g',cap,cur,hv,hg,hh,hcap,hmax,hsz,htk⟩
 ·cases h2
 ·injection hv with hv _ hc
  injection hv with hv
  injection hv with hv _ _
  subst hv hc;have hB:aj w g t cur:=hh;refine⟨⟨by rw[List.length_set];exact h.1,.inr ⟨g,c,_,rfl,hg,hB.ak i u,hcap,hmax,by simpa using hsz, ?_⟩⟩,(Mod.refl [g] w).ak (.inl (by simp)) i u⟩;rw[Array.toList_setIfInBounds,List.take_set,htk]
theorem JH (h:w.ownsRow base t sz (.slice A n c) n xs)(hn:0<n):∃g,A=some ⟨g,0,none⟩∧g<w.heap.size∧base≤g∧n≤c∧(∀i,w.frozen? ⟨g,i,none⟩=false):=by
 rcases h.2 with⟨h2,h0⟩|⟨g,cap,cur,hv,hg,hh,hcap,hmax,hsz,htk⟩
 ·omega
 ·injection hv with hv _ hc
  subst hv hc;exact⟨g,rfl,(Array.getElem?_eq_some_iff.1 hh).1,hg,hcap,fun i=>by simp[World.frozen?,hh]⟩
theorem VR {lo vb:Nat}{k v:Nat}{tv:TypeId}(ho:w.ownsRow base 33 2 (.slice A l.length c) l.length (l.flatMap bW))(hB:aj w vb tv #[.int .u64 (k:Int),.int .u64 (v:Int)])(hne:∀g,(Value.slice A l.length c).ownBlock=some g→vb≠g)(hlo:lo≤l.length)(hn:l.length≤100000)(hbw:base≤w.heap.size):
  Calls Tryz.prog 20 #[.slice A l.length c,.int .i64 (lo:Int),.slice (some ⟨vb,0,none⟩) 1 1] w (Gd base l.length (.slice A l.length c) ((l.take lo++(k,v)::l.drop lo).flatMap bW) w):=by
 have hxs:(l.take lo++(k,v)::l.drop lo).flatMap bW=(l.flatMap bW).take (lo*2)++([.int .u64 (k:Int),.int .u64 (v:Int)]++(l.flatMap bW).drop (lo*2)):=by
  rw[List.flatMap_append,List.flatMap_cons,SY,S9];rfl
 rw[hxs];by_cases he:lo=l.length
 ·subst he;have h1:=Ta ho hB hn hbw;rw[List.take_of_length_le (by rw[fE];omega),List.drop_of_length_le (by rw[fE];omega),List.append_nil];exact h1
 ·obtain⟨g,rfl,_,_,hc,_⟩:=JH ho (by omega);by_cases hr:l.length+1≤c
  ·exact NC ho hB (hne g rfl) (by omega) hr (Db l)
  ·exact QF ho hB (by omega) (by omega) (Db l) hn hbw
theorem VT {most fb:Nat}{F:List Nat}(h:rC base w fb most F l)(hn:l.length≤90000)(key val:Nat)(hroom:qV l key=false→l.length<most)(hm:most≤100000):
  Calls Tryz.prog 7 #[.pointer (some ⟨fb,0,none⟩),.int .u64 (key:Int),.int .u64 (val:Int)] w fun y w'=>y= .returned .nilIface∧Yk base w w' fb most F (jT l key val):=by
 have HF:=qd (abf h (by omega) key);have hput:=uo h.y5 key val;obtain⟨v,hB,ho,rfl,hb,ha⟩:=h;obtain⟨A,c,rfl⟩:=bA ho;have hty:=abe ho hB (by decide);have hlow:=Jz l key
 cases hi:qV l key with
 |true=>
  obtain⟨u,hu,hg⟩:=(Et ha).1 hi
  have hpp:jT l key val=l.set (iA l key) (key,val):=by unfold jT;rw[if_pos hi]
  rw[hpp]at hput⊢;rw[hi]at HF;obtain⟨lo,hlo⟩:∃lo,lo=iA l key:=⟨_,rfl⟩;rw[←hlo]at HF hu hput⊢;have hll:lo<l.length:=(List.getElem?_eq_some_iff.1 hu).1;have hset:=Vq hll key val (by rw[hu];rfl);obtain⟨g,rfl,hgl,hbg,hcl,_⟩:=JH ho (by omega)
  have hl':(lo:Int)<(l.length:Int):=by omega
  have hl0:(0:Int)≤(lo:Int):=by omega
  have HX:=qd (And.intro ho (And.intro hB (And.intro hty (And.intro hb (And.intro hput (And.intro hset hu))))));clear hi hg hlo ho hB hty hpp hput hset hroom ha hlow;go_in;go_wp2_with fail;refine HF.out.mono ?_;rintro y w1 ⟨rfl,hb1⟩;have ho1:=own_below HX.out.1 hb1 (Nat.le_refl _);have hB1:=HX.out.2.1.below hb1 HX.out.2.1.lt;have c1:=hB1.cell 1;simp only[gl]at c1;obtain⟨g2,off,hA2,afy,hc⟩:=(Reads.eF ho1).2 (by omega)
  injection hA2 with hA2
  injection hA2 with hA2 hA3 _
  subst hA2 hA3
  have r1:w1.cell? ⟨g,lo*2+1,none⟩=some (.int .u64 (u:Int)):=by have:=hc (lo*2+1) _ (fI HX.out.2.2.2.2.2.2 (by omega));rw[Nat.zero_add]at this;exact this
  have hfz:w1.frozen? ⟨g,lo*2+1,none⟩=false:=by
   obtain⟨g3,h3,_,_,_,h4⟩:=JH ho1 (by omega)
   injection h3 with h3
   injection h3 with h3 _ _
   subst h3;exact h4 _
  have HB1:=qd (And.intro hb1 (And.intro ho1 hB1));clear hb1 ho1 hB1 hc;go_wp2;go_ret;refine⟨rfl,_,⟨_,HB1.out.2.2.far (p:=⟨g,lo*2+1,none⟩) (fun e=>HX.out.2.2.1 (by simp[Value.ownBlock,e])) _, ?_,rfl,HX.out.2.2.2.1,HX.out.2.2.2.2.1⟩,fun q hq=> .inl hq, ?_⟩
  ·have h1:=(QK (i:=lo*2+1) HB1.out.2.1 (.int .u64 (val:Int))).1;rw[HX.out.2.2.2.2.2.1]at h1;rw[List.length_set];exact h1
  ·exact(Mod.of_below HB1.out.1 _).then ((Mod.refl _ _).ak (.inl (by simp[Value.ownBlock])) _ _)
 |false=>
  have hlm:=hroom hi
  have hpp:jT l key val=l.take (iA l key)++(key,val)::l.drop (iA l key):=by unfold jT;rw[if_neg (by rw[hi];simp)]
  rw[hpp]at hput⊢;rw[hi]at HF;obtain⟨lo,hlo⟩:∃lo,lo=iA l key:=⟨_,rfl⟩;rw[←hlo]at HF hput hlow⊢
  have hl':¬(most:Int)≤(l.length:Int):=by omega
  obtain⟨l2,hl2⟩:∃l2,l2=l.take lo++(key,val)::l.drop lo:=⟨_,rfl⟩
  have aax:l2.length=l.length+1:=by rw[hl2,List.length_append,List.length_cons,List.length_take,List.length_drop];omega
  rw[←hl2]at hput⊢;have HX:=qd (And.intro ho (And.intro hB (And.intro hty (And.intro hb (And.intro hput (And.intro hlow (And.intro hl2 aax)))))));clear hi hlo ho hB hty hpp hput hroom ha hlow hlm hl2 aax;go_in;go_wp2_with fail;refine HF.out.mono ?_;rintro y w1 ⟨rfl,hb1⟩;have ho1:=own_below HX.out.1 hb1 (Nat.le_refl _);have hB1:=HX.out.2.1.below hb1 HX.out.2.1.lt;obtain⟨c0,c1⟩:=hB1.c2;have HB1:=qd (And.intro hb1 (And.intro ho1 hB1));clear hb1 ho1 hB1;go_upto_region 5 with fail;go_region;go_upto_region 2 with fail;refine dI (F:=fun W=>Below w1.heap.size w1 W) (Below.refl _ _).drew ?_;rintro w2 hb2;have ho2:=own_below HB1.out.2.1 hb2 (Nat.le_refl _);have hB2:=HB1.out.2.2.below hb2 HB1.out.2.2.lt
  have hbs:base≤w2.heap.size:=by have:=HX.out.2.2.2.1;have:=hB2.lt;omega
  have hI:=fun(tv:TypeId)=>VR (lo:=lo) (k:=key) (v:=val) (w:=w2.alloc (.cells #[.int .u64 (key:Int),.int .u64 (val:Int)] tv)) (vb:=w2.heap.size) (ho2.alloc _) (aj.new w2 tv _) (fun g hg e=>by have:=(ho2.lt g hg).2;omega) HX.out.2.2.2.2.2.1 (by omega) (by simp;omega);rw[←HX.out.2.2.2.2.2.2.1]at hI;have HI:=qd hI;have HB2:=qd (And.intro (HB1.out.1.trans (hb2.mono HB1.out.1.size)) (And.intro ho2 hB2));replace c1:w2.cell? ⟨fb,1,none⟩=some (.slice A l.length c):=aA hb2 c1;clear hb2 ho2 hB2 hI HB1 c0;go_wp2_with fail;refine(HI.out _).mono ?_;rintro y w3 ⟨v',rfl,ho3,kI,hs3⟩;obtain⟨A',c',rfl⟩:=bA ho3;have hlt:fb<w2.heap.size:=HB2.out.2.2.lt;have hB3:aj w3 fb 53 #[.int .i64 (most:Int),.slice A l.length c]:=(HB2.out.2.2.alloc _).mod kI HX.out.2.2.1;have c1:=hB3.cell 1;have f1:=hB3.frozen 1;simp only[gl]at c1
  have hsz:w2.heap.size+1≤w3.heap.size:=by have:=kI.size;simpa using this
  have ace:fb∉(Value.slice A' (l.length+1) c').ownBlock.toList:=fun hq=>(hs3 fb hq).elim HX.out.2.2.1 (fun k=>by simp at k;omega)
  have HY:=qd (show Yk base w (w3.setCell ⟨fb,1,none⟩ (.slice A' (l.length+1) c')) fb most (fb::(Value.slice A l.length c).ownBlock.toList) l2 from by
   have hm0:Mod (fb::(Value.slice A l.length c).ownBlock.toList) w w3:=((Mod.of_below HB2.out.1 _).alloc _).then (kI.more (fun q hq=>List.mem_cons_of_mem _ hq));refine⟨_,⟨_,hB3.ak 1 _, ?_,rfl,HX.out.2.2.2.1,HX.out.2.2.2.2.1⟩,fun q hq=> ?_,hm0.then ((Mod.refl _ _).ak (.inl (by simp)) _ _)⟩
   ·have hx:=HX.out.2.2.2.2.2.2.2;refine⟨by rw[fE], ?_⟩;rw[hx];rcases ho3.2 with k|⟨g,cap,cur,hv3,k2,k3,k4⟩
    ·exact .inl k
    ·refine .inr ⟨g,cap,cur,hv3,k2, ?_,k4⟩;exact(Below.heap_setCell w3 ⟨fb,1,none⟩ _ g (fun e=>ace (by rw[hv3];simp[Value.ownBlock,e]))).trans k3
   ·rcases List.mem_cons.1 hq with rfl|hq
    ·exact .inl (by simp)
    ·rcases hs3 q hq with k|k
     ·exact .inl (List.mem_cons_of_mem _ k)
     ·refine .inr ?_;have h1:=HB2.out.1.size;simp at k
      omega)
  clear hB3 ho3 kI hs3 ace;go_wp2;go_ret;exact⟨rfl,HY.out⟩
end Go.Proofs.YtgiaobmcbbfmnaaGreatDoor

/-! A function's Pairs, and Same, by their contracts. No statement of the claim. -/
namespace Go.Proofs.YtgiaobmcbbfmnaaGreatDoor
set_option maxRecDepth 100000
set_option maxHeartbeats 4000000
open Go Go.RowKit dw Go.Shelf lY jY EP
variable {B B' base c c' : Nat} {w : World} {l m : PL} {A A' : Option Addr}
theorem YP {v:Value}(ho:w.ownsRow base 33 2 v l.length (l.flatMap bW))(hn:l.length≤100000):
  Calls Tryz.prog 21 #[v] w fun y w'=>∃v',y= .returned v'∧w'.ownsRow w.heap.size 33 2 v' l.length (l.flatMap bW)∧Below w.heap.size w w':=by
 have q22:∀(w:World) (a:Option Addr) (n c n' c':Nat),(binOp .eql 24 (.slice a n c) (.slice none n' c')).run Tryz.prog w= .ok (.bool a.isNone) w:=fun w a n c n' c'=>Lib.run_eql_slice_nil w _ _ a n c n' c' Tryz.underlying24
 have mixed:Tryz.prog.follows Departure.mixedOrders=true:=by kernel_rfl
 rcases ho.2 with⟨rfl,h0⟩|⟨g,cap,cur,rfl,hbg,hh,hcap,hmax,hsz,htk⟩
 ·obtain rfl:l=[]:=List.length_eq_zero_iff.1 h0;clear ho h0 hn;go_in;go_wp2;go_ret;exact⟨_,rfl,World.ownsRow_nil _ _ _ _,Below.refl _ _⟩
 ·obtain⟨i0,hi0,hz0,hz1,hz2⟩:=info_parts uN;have HI:=qd (And.intro hi0 (And.intro hz0 (And.intro hz1 hz2)))
  have HC:=qd (show∀(w2:World) (o:Obj),w2=w.alloc o→∀(j:Nat) (u:Value),(l.flatMap bW)[j]?=some u→w2.cell? ((⟨g,0,none⟩:Addr).add j)=some u from by
   rintro w2 o rfl j u hj
   have hadd:(⟨g,0,none⟩:Addr).add j=⟨g,j,none⟩:=by unfold Addr.add;split<;>simp_all
   rw[hadd];refine Lib.cell?_alloc_some _ ?_;show(match w.heap[g]? with|some (.cells cs _ _)=>cs[j]?|_=>none)=_;rw[hh];rw[←htk,List.getElem?_take]at hj;split at hj
   ·simpa using hj
   ·cases hj)
  have H1:=qd (Db l);have HL:=qd (fE l);clear hi0 hz0 hz1 hz2 ho hh htk hsz hmax hbg;go_in;go_wp2_with (at_builtin;refine wpList_append_own _ rfl _ _ 24 rfl w.heap.size 33 i0 _ 2 16 Tryz.underlying24 HI.out.1 HI.out.2.1 HI.out.2.2.1 HI.out.2.2.2 rfl (by omega) _ _ _ rfl (World.ownsRow_made w #[] 0 (Nat.le_refl _) (Nat.zero_le _) (by simp)) ⟨g,0,none⟩ l.length cap (l.flatMap bW) rfl HL.out (HC.out _ _ rfl) H1.out (by unfold maxLen;omega) (by omega) (by simp) ?_;intro v' w1 hown hgrow hnil;have HP:=qd (show w1.ownsRow w.heap.size 33 2 v' l.length (l.flatMap bW)∧Below w.heap.size w w1 from⟨by simpa using hown,((Below.refl _ w).alloc (Nat.le_refl _) _).grown hgrow (by simp) (by intro k hk;cases hk;exact Nat.le_refl _)⟩);clear hown hgrow hnil);go_ret;exact⟨_,rfl,HP.out⟩
theorem Gh {most fb:Nat}{F:List Nat}(h:rC base w fb most F l)(hn:l.length≤100000):
  Calls Tryz.prog 8 #[.pointer (some ⟨fb,0,none⟩)] w fun y w'=>∃v',y= .returned v'∧w'.ownsRow w.heap.size 33 2 v' l.length (l.flatMap bW)∧Below w.heap.size w w':=by
 obtain⟨v,hB,ho,rfl,hb,ha⟩:=h;have HC:=qd (YP ho hn);obtain⟨A,c,rfl⟩:=bA ho;have c1:=hB.cell 1;simp only[gl]at c1;clear hB ho ha;go_in;go_wp2_with fail;refine HC.out.mono ?_;rintro y w1 ⟨v',rfl,h1,h2⟩;have HP:=qd (And.intro h1 h2);clear h1 h2;go_wp2;go_ret;exact⟨_,rfl,HP.out⟩
theorem VU (x y:Nat×Nat)(W:World):(Op.equalIn 10000 33 (.agg #[.int .u64 (x.1:Int),.int .u64 (x.2:Int)]) (.agg #[.int .u64 (y.1:Int),.int .u64 (y.2:Int)])).run Tryz.prog W= .ok (decide (x=y)) W:=by
 have hS:Tryz.prog.underlying 33 =some (.struct (Tryz.prog.fieldsOf 33)):=by kernel_rfl
 have hp:Tryz.prog.stoodInHeld 33 =false:=by kernel_rfl
 rw[show(10000:Nat)=9999+1 from rfl,run_equalIn_agg W 9999 33 _ _ hS hp];simp only[Program.fieldsOf,Tryz.underlying33];go_simp
 by_cases h1:x.1=y.1<;>by_cases h2:x.2=y.2<;>simp[h1,h2,Prod.ext_iff]<;>omega
theorem YQ (hl:Reads w B 2 A l.length (l.flatMap bW))(hm:Reads w B' 2 A' m.length (m.flatMap bW))(hn:l.length≤100000):
  Calls Tryz.prog 27 #[.slice A l.length c,.slice A' m.length c'] w fun y w'=>y= .returned (.bool (decide (l=m)))∧Below w.heap.size w w':=by
 have hgd:Tryz.prog.eqGuardType Tryz.prog.depth 33 =false:=by kernel_rfl
 by_cases hlen:l.length=m.length
 ·rw[←hlen]at hm⊢;have HL:=qd hl;have HM:=qd hm;have HB:=qd (Below.refl w.heap.size w);have HS:=qd (show∀t,t<0→l[t]?=m[t]? from fun t ht=>by omega);obtain⟨r,hr⟩:∃r,r=decide (l=m):=⟨_,rfl⟩;have HR:=qd hr;rw[←hr];clear hl hm hr;go_in;go_wp2;go_loopw [4,5,13] (fun _ _ v13 wr=>∃i:Nat,i≤l.length∧v13= .int .i64 (i:Int)∧Hid (∀t,t<i→l[t]?=m[t]?)∧Hid (Below w.heap.size w wr)) (fun _ _ v13 _=>l.length-(intOf v13).toNat)
  case atStart=>exact⟨0,by omega,rfl,HS,HB⟩
  case round=>
   clear HB HS;obtain⟨i,hi,rfl,HS,HB⟩:=hrel;by_cases hlt:i<l.length
   ·have hlt':(i:Int)<(l.length:Int):=by omega
    have hi0:(0:Int)≤(i:Int):=by omega
    have hwi:IntKind.i64.wrap ((i:Int)+1)=((i+1:Nat):Int):=by rw[IntKind.wrap_i64];omega
    obtain⟨x,hx⟩:∃x,l[i]?=some x:=⟨_,List.getElem?_eq_getElem hlt⟩;obtain⟨y,hy⟩:∃y,m[i]?=some y:=⟨_,List.getElem?_eq_getElem (by omega)⟩;obtain⟨g,off,hA,hgl,hc⟩:=HL.out.2 (by omega);obtain⟨g',off',hA',afz,hc'⟩:=HM.out.2 (by omega);have hcc:∀(b o:Nat) (u:Value),w.cell? ⟨b,o,none⟩=some u→wr.cell? ⟨b,o,none⟩=some u:=fun b o u h=>aA HB.out h;have r0:wr.cell? ⟨g,off+i*2,none⟩=some (.int .u64 (x.1:Int)):=hcc _ _ _ (hc (i*2+0) _ (fI hx (by omega)));have r1:wr.cell? ⟨g,off+i*2+1,none⟩=some (.int .u64 (x.2:Int)):=hcc _ _ _ (hc (i*2+1) _ (fI hx (by omega)));have s0:wr.cell? ⟨g',off'+i*2,none⟩=some (.int .u64 (y.1:Int)):=hcc _ _ _ (hc' (i*2+0) _ (fI hy (by omega)));have s1:wr.cell? ⟨g',off'+i*2+1,none⟩=some (.int .u64 (y.2:Int)):=hcc _ _ _ (hc' (i*2+1) _ (fI hy (by omega)));have heq:=VU x y;subst hA hA';have HMe:=qd (show l.length-(i+1)<l.length-i by omega);have HXY:=qd (And.intro hx hy);clear hc hc' hcc hx hy;obtain⟨q,hq⟩:∃q,q=decide (x=y):=⟨_,rfl⟩;have HQ:=qd hq;rw[←hq]at heq;clear hq;go_upto_region 6 with fail;go_region;refine dI (F:=fun W=>Below w.heap.size w W) HB.out.drew ?_;intro w2 hb2;have HB2:=qd hb2;clear hb2
    cases q with
    |true=>
     have HS2:=qd (show∀t,t<i+1→l[t]?=m[t]? from fun t ht=>by
      by_cases h:t<i
      ·exact HS.out t h
      ·obtain rfl:t=i:=by omega
       rw[HXY.out.1,HXY.out.2,of_decide_eq_true HQ.out.symm])
     go_wp2;go_roundw
     all_goals first|exact⟨i+1,by omega,rfl,HS2,HB2⟩|(simp[intOf];have:=HMe.out;omega)
    |false=>
     have HN:=qd (show r=false from by
      rw[HR.out];refine decide_eq_false fun e=> ?_;have h1:=of_decide_eq_false HQ.out.symm;have h2:=HXY.out.1;rw[e,HXY.out.2]at h2
      exact h1 (Option.some.inj h2).symm)
     go_wp2;go_ret;exact⟨by rw[HN.out];rfl,HB2.out⟩
   ·obtain rfl:i=l.length:=by omega
    have hlt':¬(l.length:Int)<(l.length:Int):=by omega
    have HN:=qd (show r=true from by
     rw[HR.out];refine decide_eq_true (List.ext_getElem? fun t=> ?_);by_cases h:t<l.length
     ·exact HS.out t h
     ·rw[List.getElem?_eq_none (by omega),List.getElem?_eq_none (by omega)])
    go_wp2;go_ret;exact⟨by rw[HN.out];rfl,HB.out⟩
 ·have hlen':¬(l.length:Int)=(m.length:Int):=by omega
  clear hl hm;rw[show decide (l=m)=false from decide_eq_false (fun e=>hlen (by rw[e]))];go_in;go_wp2;go_ret;exact⟨rfl,Below.refl _ _⟩
theorem Ez (hl:Reads w B 2 A l.length (l.flatMap bW))(hm:Reads w B' 2 A' m.length (m.flatMap bW))(hn:l.length≤100000):
  Calls Tryz.prog 11 #[.slice A l.length c,.slice A' m.length c'] w fun y w'=>y= .returned (.bool (decide (l=m)))∧Below w.heap.size w w':=by
 have HE:=qd (YQ (c:=c) (c':=c') hl hm hn);obtain⟨r,hr⟩:∃r,r=decide (l=m):=⟨_,rfl⟩;rw[←hr]at HE⊢;clear hl hm hr;go_in;go_wp2_with fail;refine HE.out.mono ?_;rintro y w1 ⟨rfl,hb1⟩;have HB:=qd hb1;clear hb1;go_wp2;go_ret;exact⟨rfl,HB.out⟩
end Go.Proofs.YtgiaobmcbbfmnaaGreatDoor

/-! A snapshot's text and sum by their contracts. No statement of the claim. -/
namespace Go.Proofs.YtgiaobmcbbfmnaaGreatDoor
set_option maxRecDepth 100000
set_option maxHeartbeats 4000000
open Go Go.RowKit dw Go.Shelf lY jY EP
variable {l : PL} {w : World} {A : Option Addr} {B c : Nat}
def uR (p:Nat×Nat):List UInt8:=(48::120::eH p.1)++32::((48::120::eH p.2)++[10])
def gq (l:PL):List UInt8:=l.flatMap uR
theorem Tw {i:Nat}{p:Nat×Nat}(hp:l[i]?=some p):gq (l.take (i+1))=gq (l.take i)++uR p:=by
 unfold gq;rw[List.take_add_one,hp,List.flatMap_append];simp
theorem KJ (p:Nat×Nat):(uR p).length≤40:=by
 have h1:=nQ p.1;have h2:=nQ p.2;unfold uR;simp only[List.length_append,List.length_cons,List.length_nil];omega
theorem Dt (l:PL):(gq l).length≤l.length*40:=by
 unfold gq
 induction l with
 |nil=>simp
 |cons p l ih=>
  have:=KJ p;rw[List.flatMap_cons,List.length_append,List.length_cons];omega
theorem VW (a b:List UInt8)(p:Nat×Nat)(ha:a=48::120::eH p.1)(hb:b=48::120::eH p.2):((((⟨a.toArray⟩:ByteArray)++⟨#[32]⟩)++⟨b.toArray⟩)++⟨#[10]⟩).data.toList=uR p:=by
 subst ha hb;simp[ByteArray.data_append,uR]
theorem vC (hl:Reads w B 2 A l.length (l.flatMap bW))(hn:l.length≤100000)(h64:∀p∈l,p.1<18446744073709551616∧p.2<18446744073709551616)(hT:w.cell? ⟨25,15,none⟩=some (.int .u8 4)):
  Calls Tryz.prog 10 #[.slice A l.length c] w fun y w'=>y= .returned (fO (gq l))∧Below w.heap.size w w':=by
 have HL:=qd hl;have HH:=qd (fun(n:Nat) (hn:n<18446744073709551616) (W:World) (hb:Below w.heap.size w W)=>Kl n hn W (aA hb hT));have H64:=qd h64;have HB:=qd (show jQ w.heap.size w.heap.size (gq (l.take 0)) (w.alloc (.cells #[.pointer none,.slice none 0 0] 69))∧Below w.heap.size w (w.alloc (.cells #[.pointer none,.slice none 0 0] 69))from⟨jQ.new w,(Below.refl _ _).alloc (Nat.le_refl _) _⟩);clear hl hT h64;go_in;go_wp2;go_loopw [8] (fun i wr=>∃k:Nat,k≤l.length∧i= .int .i64 (k:Int)∧Hid (jQ w.heap.size w.heap.size (gq (l.take k)) wr∧Below w.heap.size w wr)) (fun i _=>l.length-(intOf i).toNat)
 case atStart=>exact⟨0,by omega,rfl,HB⟩
 case round=>
  clear HB;obtain⟨i,hi,rfl,HB⟩:=hrel;by_cases hlt:i<l.length
  ·have hlt':(i:Int)<(l.length:Int):=by omega
   have hi0:(0:Int)≤(i:Int):=by omega
   have hwi:IntKind.i64.wrap ((i:Int)+1)=((i+1:Nat):Int):=by rw[IntKind.wrap_i64];omega
   obtain⟨p,hp⟩:∃p,l[i]?=some p:=⟨_,List.getElem?_eq_getElem hlt⟩;obtain⟨g,off,hA,hgl,hc⟩:=HL.out.2 (by omega);have r0:wr.cell? ⟨g,off+i*2,none⟩=some (.int .u64 (p.1:Int)):=aA HB.out.2 (hc (i*2+0) _ (fI hp (by omega)));have r1:wr.cell? ⟨g,off+i*2+1,none⟩=some (.int .u64 (p.2:Int)):=aA HB.out.2 (hc (i*2+1) _ (fI hp (by omega)));have HP:=qd (And.intro hp (H64.out p (List.mem_of_getElem? hp)));have kW:=qd (Tw hp);have HLen:=qd (show(gq (l.take i)).length≤33554432 from by have:=Dt (l.take i);rw[List.length_take]at this;omega);subst hA;clear hc hp;go_upto_region 5 with fail;refine dI (F:=fun v=>aj v wr.heap.size 33 #[.int .u64 (p.1:Int),.int .u64 (p.2:Int)]∧Below wr.heap.size wr v) ⟨aj.new wr 33 #[.int .u64 (p.1:Int),.int .u64 (p.2:Int)],(Below.refl wr.heap.size wr).alloc (Nat.le_refl _) _⟩ ?_;rintro w6 ⟨mG,hb6⟩;have rE:=qd (And.intro (HB.out.1.below hb6) (HB.out.2.trans (hb6.mono HB.out.2.size)));obtain⟨bx,hbx⟩:∃bx,bx=wr.heap.size:=⟨_,rfl⟩;rw[←hbx]at mG⊢;have HX6:=qd mG;have x:=mG.c2;clear mG hb6 hbx HB r0 r1;refine rT (fun(w':World)=>w'.cell? ⟨bx,0,none⟩=some (.int .u64 (p.1:Int))∧w'.cell? ⟨bx,1,none⟩=some (.int .u64 (p.2:Int))) [] ?_;have hHeld:=And.intro x.1 x.2;refine vW 0 rfl ?_;refine vT 1 rfl ?_;refine vW 4 rfl ?_;refine vT 5 rfl ?_;obtain⟨s1,hs1⟩:∃s1:ByteArray,s1=⟨(48::120::eH p.1:List UInt8).toArray⟩:=⟨_,rfl⟩;obtain⟨s2,hs2⟩:∃s2:ByteArray,s2=⟨(48::120::eH p.2:List UInt8).toArray⟩:=⟨_,rfl⟩
   have gK:=qd (fun(W:World) (hb:Below w.heap.size w W)=>show Calls Tryz.prog 25 #[.int .u64 (p.1:Int)] W (fun e w'=>e= .returned (.string s1)∧Below W.heap.size W w')from by have:=HH.out p.1 HP.out.2.1 W hb;unfold fO at this;rw[hs1];exact this);have HS2:=qd (fun(W:World) (hb:Below w.heap.size w W)=>show Calls Tryz.prog 25 #[.int .u64 (p.2:Int)] W (fun e w'=>e= .returned (.string s2)∧Below W.heap.size W w')from by have:=HH.out p.2 HP.out.2.2 W hb;unfold fO at this;rw[hs2];exact this);obtain⟨s3,hs3⟩:∃s3,s3=((s1++⟨#[32]⟩)++s2)++⟨#[10]⟩:=⟨_,rfl⟩;have jg:=qd hs3;have oI:=qd (show s3.data.toList=uR p from by rw[hs3,hs1,hs2];exact VW _ _ p rfl rfl)
   have hz:s1.size≤40∧s2.size≤40:=by
    have h1:=nQ p.1;have h2:=nQ p.2
    have e1:s1.size=(48::120::eH p.1:List UInt8).length:=by rw[hs1];rfl
    have e2:s2.size=(48::120::eH p.2:List UInt8).length:=by rw[hs2];rfl
    rw[e1,e2,List.length_cons,List.length_cons,List.length_cons,List.length_cons];omega
   have hz1:¬9223372036854775807<s1.size+1:=by omega
   have hz2:¬9223372036854775807<s1.size+1+s2.size:=by omega
   have hz3:¬9223372036854775807<s1.size+1+s2.size+1:=by omega
   clear hs1 hs2 hs3 hz;refine nT 2 rfl fun K hK=> ?_;go_simp;refine(gK.out _ rE.out.2.drew).mono ?_;rintro y w7 ⟨rfl,oJ⟩;have Aq:=qd (And.intro ((rE.out.1.below (Below.refl _ _).drew).below oJ) (rE.out.2.drew.trans (oJ.mono rE.out.2.size)));have HX7:=qd ((HX6.out.drew).below oJ HX6.out.lt);have x:=HX7.out.c2;clear oJ;go_wp2_with fail;have hHeld:=And.intro x.1 x.2;refine kO hK ?_;clear hK K;refine vW 3 rfl ?_;refine nT 6 rfl fun K hK=> ?_;go_simp;refine(HS2.out _ Aq.out.2).mono ?_;rintro y w8 ⟨rfl,iw⟩;have vD:=qd (And.intro (Aq.out.1.below iw) (Aq.out.2.trans (iw.mono Aq.out.2.size)));have HX8:=qd (HX7.out.below iw HX7.out.lt);have x:=HX8.out.c2;clear iw;go_wp2_with fail;have hHeld:=And.intro x.1 x.2;refine kO hK ?_;clear hK K;refine vW 7 rfl ?_;refine vW 8 rfl ?_;refine nT 9 rfl fun K hK=> ?_;go_simp;rw[←jg.out]
   have hsl:s3.size≤33554432:=by
    have h1:=KJ p
    have h2:s3.size=s3.data.toList.length:=by rw[Array.length_toList];rfl
    rw[h2,oI.out];omega
   refine(Mf _ _ _ s3 _ vD.out.1 HLen.out hsl).mono ?_;rintro y w9 ⟨rfl,YR,zf,hk9⟩;have hX9:=hk9 bx _ _ HX8.out (by decide) (by decide);have x:=hX9.c2;clear hX9 hk9;rw[oI.out,←kW.out]at YR;have xY:=qd (And.intro YR (vD.out.2.trans zf));clear YR zf;go_wp2_with fail;have hHeld:=And.intro x.1 x.2;refine kO hK ?_;clear hK K;refine aT (by kernel_rfl) ?_ _;have HM:=qd (show l.length-(i+1)<l.length-i by omega);go_wp2;go_roundw
   case measure=>simp[intOf];exact HM.out
   exact⟨i+1,by omega,rfl,xY⟩
  ·obtain rfl:i=l.length:=by omega
   have hlt':¬(l.length:Int)<(l.length:Int):=by omega
   have hb:=HB.out;rw[List.take_of_length_le (Nat.le_refl _)]at hb;have HS:=qd (Tryz.Builder_String_any w.heap.size w.heap.size (gq l) wr hb.1 hb.1.le);have HB2:=qd hb.2;clear hb;go_wp2_with (go_at_call 26;refine HS.out.mono ?_;rintro e w1 ⟨rfl,hb1⟩);go_ret;exact⟨rfl,HB2.out.trans hb1⟩
def YS (s:ByteArray):Nat→Int
 |0=>14695981039346656037
 |i+1=>IntKind.u64.wrap (bits .xor .u64 (YS s i) ((s.data.toList.getD i 0).toNat:Int)*1099511628211)
theorem Oo (hl:Reads w B 2 A l.length (l.flatMap bW))(hn:l.length≤100000)(h64:∀p∈l,p.1<18446744073709551616∧p.2<18446744073709551616)(hT:w.cell? ⟨25,15,none⟩=some (.int .u8 4)):
  Calls Tryz.prog 12 #[.slice A l.length c] w fun y w'=>y= .returned (.int .u64 (YS ⟨(gq l).toArray⟩ (gq l).length))∧Below w.heap.size w w':=by
 have HX:=qd (vC (c:=c) hl hn h64 hT);have hlen:=Dt l;obtain⟨s,hs⟩:∃s:ByteArray,s=⟨(gq l).toArray⟩:=⟨_,rfl⟩;obtain⟨n,hN⟩:∃n,n=(gq l).length:=⟨_,rfl⟩
 have hsn:s.size=n:=by rw[hs,hN];exact List.size_toArray
 unfold fO at HX;rw[←hs]at HX⊢;rw[←hN]at hlen⊢;obtain⟨S,hS⟩:∃S,S=YS s:=⟨_,rfl⟩;have HS:=qd (show S 0=14695981039346656037∧∀i,S (i+1)=IntKind.u64.wrap (bits .xor .u64 (S i) ((s.data.toList.getD i 0).toNat:Int)*1099511628211)from by rw[hS];exact⟨rfl,fun i=>rfl⟩);rw[←hS];clear hl h64 hT hs hN hS;go_in;go_wp2_with fail;refine HX.out.mono ?_;rintro y w1 ⟨rfl,hb1⟩;obtain⟨c2,W,hcv,hbW,hltW,hcells⟩:=wQ w1 9 67 5 s Tryz.underlying9 Tryz.underlying67 Tryz.underlying5;rw[hsn]at hcv;obtain⟨g,hg⟩:∃g,g=w1.heap.size:=⟨_,rfl⟩;have HB:=qd (hb1.trans (hbW.mono hb1.size));rw[←hg]at hcv hcells
 have HC:=qd (show∀i,i<n→W.cell? ⟨g,i,none⟩=some (.int .u8 ((s.data.toList.getD i 0).toNat:Int))from fun i hi=>by
  rw[hcells i (by omega)];congr 2;rw[List.getD_eq_getElem?_getD,List.getElem?_eq_getElem (by rw[Array.length_toList];exact(show i<s.size by omega))]
  rfl)
 clear hb1 hbW hltW hcells hg HX;go_wp2;go_loopw [3,10] (fun v3 v10 wr=>∃i:Nat,i≤n∧v10= .int .i64 (i:Int)∧v3= .int .u64 (S i)∧W=wr) (fun _ v10 _=>n-(intOf v10).toNat)
 case atStart=>exact⟨0,by omega,rfl,by rw[HS.out.1],rfl⟩
 case round=>
  obtain⟨i,hi,rfl,rfl,rfl⟩:=hrel;by_cases hlt:i<n
  ·have hlt':(i:Int)<(n:Int):=by omega
   have hi0:(0:Int)≤(i:Int):=by omega
   have hwi:IntKind.i64.wrap ((i:Int)+1)=((i+1:Nat):Int):=by rw[IntKind.wrap_i64];omega
   obtain⟨bt,hbt⟩:∃bt:Nat,bt=(s.data.toList.getD i 0).toNat:=⟨_,rfl⟩
   have iw:bt<256:=by rw[hbt];exact UInt8.toNat_lt _
   have r0:=HC.out i hlt;have hst:=HS.out.2 i;rw[←hbt]at r0 hst
   have hwb:IntKind.u64.wrap (bt:Int)=(bt:Int):=by rw[IntKind.wrap_u64];omega
   have kC:=qd hst;clear hst hbt;go_wp2;go_roundw
   case measure=>simp[intOf];omega
   exact⟨i+1,by omega,rfl,by rw[kC.out],trivial⟩
  ·obtain rfl:i=n:=by omega
   have hlt':¬(i:Int)<(i:Int):=by omega
   go_wp2;go_ret;exact⟨rfl,HB.out⟩
end Go.Proofs.YtgiaobmcbbfmnaaGreatDoor

/-! A snapshot's text, split into words again. No program in sight. -/
namespace Go.Proofs.YtgiaobmcbbfmnaaGreatDoor
set_option maxRecDepth 100000
set_option maxHeartbeats 4000000
open Go Go.RowKit dw Go.Shelf lY jY EP
def qw (p:Nat×Nat):List (List UInt8):=[48::120::eH p.1,48::120::eH p.2]
def sM (l:PL):List (Nat×List (List UInt8)):=l.map fun p=>(0,qw p)
theorem QL (l:PL):gq l=joined (sM l):=by
 unfold gq joined sM;rw[List.map_map];show(l.map uR).flatten=_;congr 1;refine List.map_congr_left fun p _=> ?_;show uR p=Lib.join (qw p) [32]++[10];unfold qw uR;rw[AZ];simp[Lib.join]
theorem YT (c:UInt8)(h:jC c=true):yV c:=by
 have h1:c.toNat<256:=c.toNat_lt;unfold jC at h;simp only[Bool.or_eq_true,Bool.and_eq_true,decide_eq_true_eq,UInt8.le_iff_toNat_le,iJ]at h;unfold yV rY;refine⟨?_,fun e=> ?_,fun e=> ?_⟩
 ·simp only[Bool.and_eq_true,decide_eq_true_eq,UInt8.le_iff_toNat_le];have h32:(32:UInt8).toNat=32:=rfl;have adS:(126:UInt8).toNat=126:=rfl;rw[h32,adS];omega
 ·subst e;revert h
  decide
 ·subst e;revert h
  decide
theorem KL (n:Nat)(hn:n<18446744073709551616):Es (48::120::eH n):=by
 have hp:(16:Nat)^(15+1)=18446744073709551616:=by decide
 obtain⟨h1,_,_,_⟩:=CR 16 n (by rw[Nat.pow_succ,hp];omega);refine⟨by simp,fun b hb=> ?_⟩;rcases List.mem_cons.1 hb with rfl|hb
 ·unfold yV;decide
 rcases List.mem_cons.1 hb with rfl|hb
 ·unfold yV;decide
 ·exact YT b (h1 b hb)
theorem Bw (l:PL)(h:∀p∈l,p.1<18446744073709551616∧p.2<18446744073709551616):lW [] 1 (lines (gq l))= .ok (pE 1 (sM l)):=by
 have hg:∀p∈sM l,p.2≠[]∧∀x∈p.2,Es x:=fun q hq=>by
  obtain⟨p,hp,rfl⟩:=List.mem_map.1 hq;refine⟨by simp[qw],fun x hx=> ?_⟩
  have hx':x=48::120::eH p.1∨x=48::120::eH p.2:=by simpa[qw]using hx
  rcases hx' with rfl|rfl
  ·exact KL _ (h p hp).1
  ·exact KL _ (h p hp).2
 rw[QL,CB _ (fun p hp=>(hg p hp).2),zS _ [] 1 hg];simp
theorem Gi {l:PL}{i:Nat}{p:Nat×Nat}(hp:l[i]?=some p):(pE 1 (sM l))[i]?=some (1+i,qw p):=
 Nc _ _ _ (0,qw p) (by unfold sM;rw[List.getElem?_map,hp];rfl)
theorem wu (l:PL):(pE 1 (sM l)).length=l.length:=by rw[CF];simp[sM]
theorem Oq {a b:Nat}(ha:a<18446744073709551616)(hb:b<18446744073709551616)(h:eH a=eH b):a=b:=by
 have h1:=FZ a ha;rw[h,FZ b hb]at h1;exact(Option.some.inj h1).symm
theorem VX {l m:PL}(hl:∀p∈l,p.1<18446744073709551616∧p.2<18446744073709551616)(hm:∀p∈m,p.1<18446744073709551616∧p.2<18446744073709551616)(h:gq l=gq m):l=m:=by
 have h1:=Bw l hl;rw[h,Bw m hm]at h1
 injection h1 with h1
 have hlen:m.length=l.length:=by rw[←wu,←wu,h1]
 refine List.ext_getElem? fun i=> ?_
 cases hp:l[i]? with
 |none=>rw[List.getElem?_eq_none_iff]at hp;exact(List.getElem?_eq_none_iff.2 (by omega)).symm
 |some p=>
  have hi:i<l.length:=(List.getElem?_eq_some_iff.1 hp).1;obtain⟨q,hq⟩:∃q,m[i]?=some q:=⟨_,List.getElem?_eq_getElem (by omega)⟩;have a1:=Gi hp;have a2:=Gi hq;rw[h1,a1]at a2;have a3:=(Prod.mk.inj (Option.some.inj a2)).2;unfold qw at a3
  injection a3 with b1 b2
  injection b1 with _ b1
  injection b1 with _ b1
  injection b2 with b2 _
  injection b2 with _ b2
  injection b2 with _ b2
  have c1:=hl p (List.mem_of_getElem? hp);have c2:=hm q (List.mem_of_getElem? hq);rw[hq,Prod.ext (Oq c1.1 c2.1 b1) (Oq c1.2 c2.2 b2)]
end Go.Proofs.YtgiaobmcbbfmnaaGreatDoor
