/- A table's Seek by its contract. -/
import Derived.Test.YtbfpfgfgfjhpfaaGreatDoorTabS
import Derived.Test.YtbfpfgfgfjhpfaaGreatDoorCoG
import Derived.Test.YtbfpfgfgfjhpfaaGreatDoorSq
namespace Go.Proofs.YtbfpfgfgfjhpfaaGreatDoor
set_option maxRecDepth 100000
set_option maxHeartbeats 4000000
open Go.RowKit Go.Shelf dP Go
variable {S : List Nat} {X Y w w' : World} {row : Option Nat} {t : TypeId} {n : Nat}
attribute [local go_sem] Oper.semAt_some
def gH (a c:bE):Nat→bE
 |0=>a
 |k+1=>jA (gH a c k) c
theorem Mod.cell_ (h:Mod S w w'){p:Addr}(hp:p.block<w.heap.size)(hs:p.block∉S):w'.cell? p=w.cell? p:=World.cell?_of_block (w:=w) (h.block p.block hp hs)
theorem jl {B:Nat}(h:Mod S w w')(hS:∀k,k∈S→k<B):KeepsFrom B w w':=⟨h.size,fun k o hB hk _=>(h.block k (Array.getElem?_eq_some_iff.1 hk).1 (fun hh=>absurd (hS k hh) (by omega))).trans hk⟩
theorem nK {n₀ n₁:Nat}{T:List Nat}{A B:World}(h:aV n₀ S A B)(hn:n₁≤n₀)(hS:∀k,k<n₁→k∈S→k∈T):aV n₁ T A B:=⟨h.os,h.tape,h.output,h.size,fun k hk hT=>h.block k (by omega) (fun hh=>hT (hS k hk hh))⟩
theorem Aj {g:Nat}{cs:Array Value}(h:aj X g t cs)(hg:X.grownBy Y row)(hr:∀r,row=some r→∃o:Obj,X.heap[r]?=some o∧o.isCells=false):aj Y g t cs:=by
 refine(hg.block g h.lt (fun e=> ?_)).trans h;obtain⟨o,ho,hc⟩:=hr g e.symm;rw[show X.heap[g]?=_ from h]at ho;cases ho;cases hc
theorem EJ {mb:Nat}{pre post:List Value}{mo:Nat}{a l:bE}{m:Int}(h:Met X mb t pre post mo a l m)(hg:X.grownBy Y row)(hr:∀r,row=some r→∃o:Obj,X.heap[r]?=some o∧o.isCells=false):Met Y mb t pre post mo a l m:=⟨h.len,Aj h.blk hg hr⟩
def dI (x:Option (Nat×Nat)):Int:=match x with
 |some y=>(y.2:Int)
 |none=> -1
def eD (tb key hash:Nat)(ap:Option Addr)(as_:Int)(fp:Option Addr)(fs:Int):Array Value:= #[.pointer (some ⟨tb,0,none⟩),.int .u64 (key:Int),.int .u64 (hash:Int),.pointer ap,.int .i64 as_,.pointer fp,.int .i64 fs]
def iO (gb:Nat)(x:Option (Nat×Nat))(p:Option Addr):Prop:=∀i s,x=some (i,s)→p=some ⟨gb,i*25,none⟩
def vals {n:Nat}(pre:List (Fin n)):List Nat:=pre.map Fin.val
theorem y7 (pre:List (Fin n))(x:Fin n):vals (pre++[x])=vals pre++[x.val]:=by simp[vals]
def wQ (gs:Tab)(key hash i:Nat):Option (Nat×Nat):=(iA (gs.getD i []) key hash).map fun s=>(i,s)
theorem Vz {gs:Tab}{key hash:Nat}{pre:List (Fin n)}{x:Fin n}{j:Nat}(hj:vals (pre++[x])=(walk (hash/128) gs.length).take j)(h:∀y∈pre,Passed gs key hash y.val)(he:iA (gs.getD x.val []) key hash≠none∨dQ (gs.getD x.val [])=true):aH gs key hash=(wQ gs key hash x.val,fV gs (vals (pre++[x])),(pre++[x]).length):=by
 have hw:vals pre++x.val::(walk (hash/128) gs.length).drop j=walk (hash/128) gs.length:=by
  have:=List.take_append_drop j (walk (hash/128) gs.length);rw[←hj,y7,List.append_assoc]at this;exact this
 have hp:∀i∈vals pre,Passed gs key hash i:=fun i hi=>by
  obtain⟨y,hy,rfl⟩:=List.mem_map.1 hi;exact h y hy
 have hlen:(vals pre++[x.val]).length=(pre++[x]).length:=by simp[vals]
 unfold wQ;rw[y7,←hlen]
 cases hf:iA (gs.getD x.val []) key hash with
 |some s=>exact YF hw hp hf
 |none=>
  rcases he with he|he
  ·exact absurd hf he
  ·exact Vy hw hp hf he
theorem BF (tb gb key hash:Nat)(T:aC)(mb:Nat)(mt:TypeId)(kr iP:List Value)(mo:Nat)(a0 l0:bE)(m:Int)(c:bE)(w:World)(h:TabAt w tb gb T)(hP:Pw T.gs.length)(h64:hash<18446744073709551616)(hM:Met w mb mt kr iP mo a0 l0 m)(hmt:mb≠tb)(jW:mb≠gb)(hT:gZ w)(hz:13 ≠mb):
  Calls Tryz.prog 99 #[cZ tb,aJ (some ⟨mb,mo,none⟩) c,.int .u64 (key:Int),.int .u64 (hash:Int)] w fun e w'=>∃ap fp,e= .returned (dJ tb key hash ap (dI (aH T.gs key hash).1) fp (dI (aH T.gs key hash).2.1))∧
   (∀i s,(aH T.gs key hash).1=some (i,s)→ap=some ⟨gb,i*25,none⟩)∧(∀i s,(aH T.gs key hash).2.1=some (i,s)→fp=some ⟨gb,i*25,none⟩)∧
   Met w' mb mt kr iP mo (gH a0 c (aH T.gs key hash).2.2) (gH l0 c (aH T.gs key hash).2.2) m∧Mod [mb] w w':=by
 obtain⟨W,hW,hB,hA,hL,hK,hH,hR⟩:=qX5 w 178 #[.pointer (some ⟨tb,0,none⟩)] 154 #[.pointer (some ⟨mb,mo,none⟩),.int .i64 c.p,.int .i64 c.v,.int .i64 c.u] 35 #[.int .u64 (key:Int)] 35 #[.int .u64 (hash:Int)] 199 #[.pointer none,.int .u64 0,.int .u64 0,.pointer none,.int .i64 0,.pointer none,.int .i64 0];have mM:=h.below hB;have Ak:=hM.below hB;have HW:=qd hW;have HB:=qd hB;have hg:=World.block_lt_of_cell? w _ (hT 0 (by omega));have htl:=h.aW;have hgl:=h.aX;have hml:=hM.lt;unfold cZ aJ dJ;clear hW hB h hM;refine(callsIn_wide (n:=10)).1 ?_
 have h1:1≤10:=by omega
 refine lM Tryz.func99 rfl trivial rfl ?_;simp only[Tryz.ntmps99,List.size_toArray,List.length_cons,List.length_nil,Nat.reduceAdd,Nat.reduceSub,Array.replicate_succ,Array.replicate_zero,List.push_toArray,List.append_toArray,List.nil_append,List.cons_append];refine wpIn_wide.2 ?_;go_upto_region 1 with fail;rw[←HW.out];have ca0:=hA.cell 0;simp only[List.getElem?_toArray,List.getElem?_cons_zero]at ca0;have ck0:=hK.cell 0;simp only[List.getElem?_toArray,List.getElem?_cons_zero]at ck0;have ch0:=hH.cell 0;simp only[List.getElem?_toArray,List.getElem?_cons_zero]at ch0;go_upto_region 2 with fail;have hSp:=aj.new W 199 #[.pointer (some ⟨tb,0,none⟩),.int .u64 (key:Int),.int .u64 (hash:Int),.pointer none,.int .i64 (-1),.pointer none,.int .i64 (-1)];have hBW:=(Below.refl W.heap.size W).alloc (Nat.le_refl _) (.cells #[.pointer (some ⟨tb,0,none⟩),.int .u64 (key:Int),.int .u64 (hash:Int),.pointer none,.int .i64 (-1),.pointer none,.int .i64 (-1)] 199);obtain⟨W1,hW1⟩:∃W1,W1=W.alloc (.cells #[.pointer (some ⟨tb,0,none⟩),.int .u64 (key:Int),.int .u64 (hash:Int),.pointer none,.int .i64 (-1),.pointer none,.int .i64 (-1)] 199):=⟨_,rfl⟩;rw[←hW1]at hSp hBW⊢;have HW1:=qd hW1;clear hW1;have hT1:=mM.below hBW;have hM1:=Ak.below hBW;have ht:=aA hBW ca0;have hh:=aA hBW ch0;have hc:=hT1.cells.1;have Al:Below w.heap.size w W1:=bX hBW HB.out;have hlR:=hR.lt;have afD:=hSp.lt
 refine rT (fun(w':World)=>w'.cell? ⟨w.heap.size+1+1+1,0,none⟩=some (.int .u64 (hash:Int))∧w'.cell? ⟨w.heap.size,0,none⟩=some (.pointer (some ⟨tb,0,none⟩))∧w'.cell? ⟨tb,0,none⟩=some (.slice (some ⟨gb,0,none⟩) T.gs.length T.gs.length)) [] ?_;have hHeld:=(⟨hh,ht,hc⟩:_∧_∧_);refine vT 0 rfl ?_;refine vT 2 rfl ?_;refine vW 3 rfl ?_;refine vW 4 rfl ?_;refine vT 5 rfl ?_;refine vW 6 rfl ?_;refine nT 1 rfl fun K hK=> ?_;go_simp;refine(Yf hash _).mono ?_;rintro e w1 ⟨rfl,rfl⟩;go_wp2_with fail;have hHeld:=(⟨hh,ht,hc⟩:_∧_∧_);refine kO hK ?_;clear hK K;refine nT 7 rfl fun K hK=> ?_;go_simp;refine(Te (hash/128) T.gs.length _).mono ?_;rintro e w1 ⟨rfl,hw1⟩;have hb1:Below W1.heap.size W1 w1:=hw1▸(((Below.refl W1.heap.size W1).drew).alloc (Nat.le_refl _) _).alloc (by simp) _;have Ct:aj w1 W1.heap.size 35 #[.int .u64 ((hash/128:Nat):Int)]:=hw1▸(aj.new W1.drew _ _).alloc _
 have hBg:aj w1 (W1.heap.size+1) 3 #[.int .i64 (T.gs.length:Int)]:=by rw[←hw1];have h0:=aj.new (W1.drew.alloc (.cells #[.int .u64 ((hash/128:Nat):Int)] 35)) 3 #[.int .i64 (T.gs.length:Int)];rw[show(W1.drew.alloc (.cells #[.int .u64 ((hash/128:Nat):Int)] 35)).heap.size=W1.heap.size+1 by simp]at h0;exact h0
 clear hw1;go_wp2_with fail;replace hh:=aA hb1 hh;replace ht:=aA hb1 ht;replace hc:=aA hb1 hc;have hHeld:=(⟨hh,ht,hc⟩:_∧_∧_);refine kO hK ?_;clear hK K;refine aY (by kernel_rfl) ?_ _;go_wp2_with fail;refine(wpIn_wide (n:=10)).1 ?_;have hA1:=(hA.below hBW hA.lt).below hb1 (hA.below hBW hA.lt).lt;have hL1:=(hL.below hBW hL.lt).below hb1 (hL.below hBW hL.lt).lt;have hK1:=(hK.below hBW hK.lt).below hb1 (hK.below hBW hK.lt).lt;have hH1:=(hH.below hBW hH.lt).below hb1 (hH.below hBW hH.lt).lt;have tV:=(hR.below hBW hR.lt).below hb1 (hR.below hBW hR.lt).lt;have hTw:=hT1.below hb1;have aci:gZ w1:=fun i hi=>((Al.trans (hb1.mono Al.size)).cell (p:=⟨13,p8 i,none⟩) hg).trans (hT i hi);have hbl:=hb1.size
 have hgs:13 <w1.heap.size:=by have:=Al.size;omega
 refine wpIn_rangeFunc_ownH rfl h1 (gf:=180) (lb:= #[.pointer (some ⟨W1.heap.size+1,0,none⟩),.pointer (some ⟨W1.heap.size,0,none⟩)]) rfl trivial (enters_of Tryz.func180 (by kernel_rfl) rfl)
  (Tf (10-1) (by omega) (W1.heap.size+1) W1.heap.size w1.heap.size [W.heap.size,mb] (hash/128) T.gs.length (by omega) hP w1 hBg.lt (by simp;omega) Ct.lt (Nat.le_refl _) (hBg.cell 0) (Ct.cell 0)) dW (xE (Nat.le_refl _)) (Below.refl _ _) (fun _=>rfl)
  (fun pre V=>((∃fp,aj V W.heap.size 199 (eD tb key hash none (-1) fp (dI (fV T.gs (vals pre))))∧iO gb (fV T.gs (vals pre)) fp)∧Met V mb mt kr iP mo (gH a0 c pre.length) (gH l0 c pre.length) m∧∀y∈pre,Passed T.gs key hash y.val)∧aV w1.heap.size [W.heap.size,mb] w1 V)
  (fun cd pre V=>(cd= .ret∧∃pre' x ap fp,pre=pre'++[x]∧(∀y∈pre',Passed T.gs key hash y.val)∧(iA (T.gs.getD x.val []) key hash≠none∨dQ (T.gs.getD x.val [])=true)∧
   aj V (w.heap.size+1+1+1+1) 199 (eD tb key hash ap (dI (wQ T.gs key hash x.val)) fp (dI (fV T.gs (vals pre))))∧iO gb (wQ T.gs key hash x.val) ap∧iO gb (fV T.gs (vals pre)) fp∧
   Met V mb mt kr iP mo (gH a0 c pre.length) (gH l0 c pre.length) m)∧aV w.heap.size [mb] w V)
  (OwnFrom.and (fun _ X Y row hs hg hr=>by
   obtain⟨⟨fp,h2,h3⟩,h4,h5⟩:=hs
   exact⟨⟨fp,Aj h2 hg (fun r e=>(hr r e).2),h3⟩,EJ h4 hg (fun r e=>(hr r e).2),h5⟩) (qQ (Nat.le_refl _) (Nat.le_refl _)))
  (fun cd=>OwnFrom.and (fun _ X Y row hs hg hr=>by
   obtain⟨h0,pre',x,ap,fp,h2,h3,h4,h5,h6,h7,h8⟩:=hs
   exact⟨h0,pre',x,ap,fp,h2,h3,h4,Aj h5 hg (fun r e=>(hr r e).2),h6,h7,EJ h8 hg (fun r e=>(hr r e).2)⟩) (qQ (Nat.le_refl _) (by have:=Al.size;omega)))
  ⟨⟨⟨none,hSp.below hb1 hSp.lt,fun i s he=>by cases he⟩,hM1.below hb1,by simp⟩,aV.refl _ _ _⟩
  (fun x a' _=>a'={tmps:= #[.pointer (some ⟨tb,0,none⟩),.agg #[.pointer (some ⟨mb,mo,none⟩),.int .i64 c.p,.int .i64 c.v,.int .i64 c.u],.int .u64 (key:Int),.int .u64 (hash:Int),.pointer (some ⟨w.heap.size,0,none⟩),.pointer (some ⟨w.heap.size+1,0,none⟩),.pointer (some ⟨w.heap.size+1+1,0,none⟩),.pointer (some ⟨w.heap.size+1+1+1,0,none⟩),.pointer (some ⟨w.heap.size+1+1+1+1,0,none⟩),.pointer (some ⟨W.heap.size,0,none⟩),.int .i64 (x.val:Int),undef,undef,.pointer (some ⟨tb,0,none⟩),.int .u64 (key:Int),.int .u64 (hash:Int),.agg #[.pointer none,.int .i64 (-1)],.agg #[.pointer none,.int .i64 (-1)],.agg #[.pointer (some ⟨tb,0,none⟩),.int .u64 (key:Int),.int .u64 (hash:Int),.pointer none,.int .i64 (-1),.pointer none,.int .i64 (-1)],.int .u64 (hash:Int),.int .u64 ((hash:Int)/128),.pointer (some ⟨tb,0,none⟩),.pointer (some ⟨tb,0,none⟩),.pointer (some ⟨tb,0,none⟩),.slice (some ⟨gb,0,none⟩) T.gs.length T.gs.length,.int .i64 (T.gs.length:Int),.func (.func 180) #[] #[.pointer (some ⟨W1.heap.size+1,0,none⟩),.pointer (some ⟨W1.heap.size,0,none⟩)],.int .i64 (x.val:Int),undef,undef,undef,undef,undef,undef,undef,undef,undef,undef,undef,undef,undef,undef,undef,undef,undef,undef,undef,undef,undef,undef,undef,undef,undef,undef,undef,undef,undef,undef,undef,undef],defers:=[]})
  (fun _ _ _ _ _ _ hs _ _=>hs) ?assign ?body ?done ?stop
 case assign=>
  rintro lp pre x V K hi hK
  gi_wp2
  exact hK _ _ (KeepsFrom.refl _ _) (aV.refl _ _ _) hi rfl
 case body=>
  rintro lp pre x a' V hl ⟨r,hr⟩ ⟨⟨⟨fp,Dp,hfp⟩,Rh,hps⟩,oZ⟩ rfl hlt;have hAV:=oZ.blk hA1 (by omega) (by simp;omega);have hLV:=oZ.blk hL1 (by omega) (by simp;omega);have hTV:=hTw.keep oZ (by omega) (by omega) (by simp;omega) (by simp;omega);have hxn:x.val<T.gs.length:=x.isLt;have YG:=hP.le
  have hxi:(x.val:Int)<(T.gs.length:Int):=by omega
  have hx0:(0:Int)≤(x.val:Int):=by omega
  have Dl:=oZ.size;have t0:=hAV.cell 0;simp only[List.getElem?_toArray,List.getElem?_cons_zero]at t0;obtain⟨Kz,KA,KC,KD⟩:=hLV.c4;have hc:=hTV.cells.1;have HS:=qd (fun(wX:World) (M:Mod [mb] V wX)=>show(fun(w':World)=>w'.cell? ⟨w.heap.size,0,none⟩=some (.pointer (some ⟨tb,0,none⟩))∧w'.cell? ⟨tb,0,none⟩=some (.slice (some ⟨gb,0,none⟩) T.gs.length T.gs.length)∧w'.cell? ⟨w.heap.size+1,0,none⟩=some (.pointer (some ⟨mb,mo,none⟩))∧w'.cell? ⟨w.heap.size+1,1,none⟩=some (.int .i64 c.p)∧w'.cell? ⟨w.heap.size+1,2,none⟩=some (.int .i64 c.v)∧w'.cell? ⟨w.heap.size+1,3,none⟩=some (.int .i64 c.u)) wX from⟨(M.cell_ (p:=⟨w.heap.size,0,none⟩) (by show w.heap.size<_;omega) (by simp;omega)).trans t0,(M.cell_ (p:=⟨tb,0,none⟩) (by show tb<_;omega) (by simp;omega)).trans hc,(M.cell_ (p:=⟨w.heap.size+1,0,none⟩) (by show w.heap.size+1<_;omega) (by simp;omega)).trans Kz,(M.cell_ (p:=⟨w.heap.size+1,1,none⟩) (by show w.heap.size+1<_;omega) (by simp;omega)).trans KA,(M.cell_ (p:=⟨w.heap.size+1,2,none⟩) (by show w.heap.size+1<_;omega) (by simp;omega)).trans KC,(M.cell_ (p:=⟨w.heap.size+1,3,none⟩) (by show w.heap.size+1<_;omega) (by simp;omega)).trans KD⟩)
  gi_wp2_with fail
  refine aea (fun a' w2=>∃vb,a'={tmps:= #[.pointer (some ⟨tb,0,none⟩),.agg #[.pointer (some ⟨mb,mo,none⟩),.int .i64 c.p,.int .i64 c.v,.int .i64 c.u],.int .u64 (key:Int),.int .u64 (hash:Int),.pointer (some ⟨w.heap.size,0,none⟩),.pointer (some ⟨w.heap.size+1,0,none⟩),.pointer (some ⟨w.heap.size+1+1,0,none⟩),.pointer (some ⟨w.heap.size+1+1+1,0,none⟩),.pointer (some ⟨w.heap.size+1+1+1+1,0,none⟩),.pointer (some ⟨W.heap.size,0,none⟩),.int .i64 (x.val:Int),.pointer (some ⟨vb,0,none⟩),undef,.pointer (some ⟨tb,0,none⟩),.int .u64 (key:Int),.int .u64 (hash:Int),.agg #[.pointer none,.int .i64 (-1)],.agg #[.pointer none,.int .i64 (-1)],.agg #[.pointer (some ⟨tb,0,none⟩),.int .u64 (key:Int),.int .u64 (hash:Int),.pointer none,.int .i64 (-1),.pointer none,.int .i64 (-1)],.int .u64 (hash:Int),.int .u64 ((hash:Int)/128),.pointer (some ⟨tb,0,none⟩),.pointer (some ⟨tb,0,none⟩),.pointer (some ⟨tb,0,none⟩),.slice (some ⟨gb,0,none⟩) T.gs.length T.gs.length,.int .i64 (T.gs.length:Int),.func (.func 180) #[] #[.pointer (some ⟨W1.heap.size+1,0,none⟩),.pointer (some ⟨W1.heap.size,0,none⟩)],.int .i64 (x.val:Int),.pointer (some ⟨tb,0,none⟩),.pointer (some ⟨tb,0,none⟩),.pointer (some ⟨tb,0,none⟩),.slice (some ⟨gb,0,none⟩) T.gs.length T.gs.length,.int .i64 (x.val:Int),.pointer (some ⟨gb,x.val*25,none⟩),.agg #[.pointer (some ⟨mb,mo,none⟩),.int .i64 c.p,.int .i64 c.v,.int .i64 c.u],.agg #[.pointer (some ⟨gb,x.val*25,none⟩)],undef,undef,undef,undef,undef,undef,undef,undef,undef,undef,undef,undef,undef,undef,undef,undef,undef,undef,undef,undef,undef,undef,undef,undef],defers:=[]}∧aj w2 vb 195 #[.pointer (some ⟨gb,x.val*25,none⟩)]∧V.heap.size≤vb∧Met w2 mb mt kr iP mo (jA (gH a0 c pre.length) c) (jA (gH l0 c pre.length) c) m∧Mod [mb] V w2) ?_ ?_
  ·refine Bw (fun(w':World)=>w'.cell? ⟨w.heap.size,0,none⟩=some (.pointer (some ⟨tb,0,none⟩))∧w'.cell? ⟨tb,0,none⟩=some (.slice (some ⟨gb,0,none⟩) T.gs.length T.gs.length)∧w'.cell? ⟨w.heap.size+1,0,none⟩=some (.pointer (some ⟨mb,mo,none⟩))∧w'.cell? ⟨w.heap.size+1,1,none⟩=some (.int .i64 c.p)∧w'.cell? ⟨w.heap.size+1,2,none⟩=some (.int .i64 c.v)∧w'.cell? ⟨w.heap.size+1,3,none⟩=some (.int .i64 c.u)) [] (by kernel_rfl) (by kernel_rfl) (by rintro⟨_,_,h⟩;exact h) ?_
   try (change bH _ _ _ _ _ _ _ _ _ (World.drew _))
   have hHeld:=(⟨t0,hc,Kz,KA,KC,KD⟩:_∧_∧_∧_∧_∧_);refine vT 0 rfl ?_;refine vW 1 rfl ?_;refine vW 2 rfl ?_;refine vT 3 rfl ?_;refine vW 4 rfl ?_;refine vW 5 rfl ?_;refine vT 6 rfl ?_;refine pairT (i:=7) (j:=8) (o:=⟨some 35,_,_,_,_,_⟩) (o':=⟨some 11,_,_,_,_,_⟩) rfl rfl (by kernel_rfl) (fun K hK=> ?_) (fun K hK=> ?_)
   ·go_simp;refine(wO ⟨gb,x.val*25,none⟩ mb mt kr iP mo _ _ m c _ (Rh.below (Below.refl _ _).drew)).mono ?_;rintro e w2 ⟨rfl,hM2,hm2⟩;simp only[bC];go_wp2_with fail;have M7:Mod [mb] V w2:=(Mod.drewN [mb] V 1).then hm2;refine hK.out _ _ (fun _=>HS.out _ M7) ?_;clear hK K
    try simp only[pt]
    refine nT 8 rfl fun K hK=> ?_;go_simp;have M8:Mod [mb] V (w2.alloc (.cells #[.pointer none] 195)):=M7.alloc _;have Dq:=aj.new w2 195 #[.pointer none];have Ri:=hM2.below ((Below.refl w2.heap.size w2).alloc (Nat.le_refl _) (.cells #[.pointer none] 195));have aec:=M7.size;obtain⟨w3,hw3⟩:∃w3,w3=w2.alloc (.cells #[.pointer none] 195):=⟨_,rfl⟩;rw[←hw3]at M8 Dq Ri⊢;clear hw3;refine hK.out _ _ (fun _=>HS.out _ M8) ?_;clear hK K
    try simp only[pt]
    refine nT 9 rfl fun K hK=> ?_;have n0:=Dq.cell 0;simp only[List.getElem?_toArray,List.getElem?_cons_zero]at n0;have nf:=Dq.frozen 0;go_simp;have M9:=M8.ak (b:=w2.heap.size) (.inr (by omega)) 0 (.pointer (some ⟨gb,x.val*25,none⟩));refine hK.out _ _ (fun _=>HS.out _ M9) ?_;clear hK K
    try simp only[pt]
    refine aY (by kernel_rfl) ?_ _;exact⟨w2.heap.size,rfl,Dq.ak 0 _,aec,⟨Ri.len,Ri.blk.far (p:=⟨w2.heap.size,0,none⟩) (by show mb≠w2.heap.size;omega) _⟩,M9⟩
   ·go_simp;have M8:Mod [mb] V (V.alloc (.cells #[.pointer none] 195)).drew:=((Mod.refl [mb] V).alloc _).then (Mod.drewN [mb] _ 1);have Dq:aj (V.alloc (.cells #[.pointer none] 195)).drew V.heap.size 195 #[.pointer none]:=(aj.new V _ _).drew;have Ri:=Rh.below (((Below.refl V.heap.size V).alloc (Nat.le_refl _) (.cells #[.pointer none] 195)).drew);obtain⟨w3,hw3⟩:∃w3,w3=(V.alloc (.cells #[.pointer none] 195)).drew:=⟨_,rfl⟩;rw[←hw3]at M8 Dq Ri⊢;clear hw3;refine hK.out _ _ (fun _=>HS.out _ M8) ?_;clear hK K
    try simp only[pt]
    refine nT 7 rfl fun K hK=> ?_;go_simp;refine(wO ⟨gb,x.val*25,none⟩ mb mt kr iP mo _ _ m c _ Ri).mono ?_;rintro e w2 ⟨rfl,hM2,hm2⟩;simp only[bC];go_wp2_with fail;have M7:Mod [mb] V w2:=M8.then hm2;replace Dq:=Dq.mod hm2 (by simp;omega);refine hK.out _ _ (fun _=>HS.out _ M7) ?_;clear hK K
    try simp only[pt]
    refine nT 9 rfl fun K hK=> ?_;have n0:=Dq.cell 0;simp only[List.getElem?_toArray,List.getElem?_cons_zero]at n0;have nf:=Dq.frozen 0;go_simp;have M9:=M7.ak (b:=V.heap.size) (.inr (Nat.le_refl _)) 0 (.pointer (some ⟨gb,x.val*25,none⟩));refine hK.out _ _ (fun _=>HS.out _ M9) ?_;clear hK K
    try simp only[pt]
    refine aY (by kernel_rfl) ?_ _;exact⟨V.heap.size,rfl,Dq.ak 0 _,Nat.le_refl _,⟨hM2.len,hM2.blk.far (p:=⟨V.heap.size,0,none⟩) (by show mb≠V.heap.size;omega) _⟩,M9⟩
  ·rintro a' w2 ⟨vb,rfl,VA,hvb,hM2,hm2⟩;simp only[Array.mk.injEq];have hK2:aV w1.heap.size [W.heap.size,mb] w1 w2:=dW oZ ((hm2.more (T:=[W.heap.size,mb]) (by simp)).wP Dl);have YH:aV w1.heap.size [W.heap.size,mb] V w2:=(hm2.more (T:=[W.heap.size,mb]) (by simp)).wP Dl;have kD:=hTV.mod hm2 (by simp;omega) (by simp;omega);have hS2:=Dp.mod hm2 (by simp;omega);have YI:=hK2.blk hK1 (by omega) (by simp;omega);have YJ:=hK2.blk hH1 (by omega) (by simp;omega);have hR2:=hK2.blk tV (by omega) (by simp;omega);have YK:gZ w2:=hK2.tz hgs (by simp;omega) aci;have YL:KeepsFrom w1.heap.size V w2:=jl hm2 (by simp;omega);have afE:w1.heap.size≤vb:=Nat.le_trans Dl hvb;cases hfr:fV T.gs (vals pre)
   case' some y=>
    have hfr2:fV T.gs (vals (pre++[x]))=some y:=by rw[y7,uR,hfr];rfl
    rw[hfr]at hS2 hfp;obtain⟨wq,hwq⟩:∃wq,wq=w2:=⟨_,rfl⟩;obtain⟨wH,JC⟩:∃wH,wH=fp:=⟨_,rfl⟩;rw[←hwq]at hS2 VA YI YJ hR2 kD YK YL hK2 YH hM2⊢;rw[←JC]at hS2 hfp;clear hwq JC hm2;have Dr:=hS2;have KE:iO gb (fV T.gs (vals (pre++[x]))) wH:=hfr2▸hfp;have KF:=VA;have hKq:=YI;have NU:=hR2;have VB:=hM2;have Dt:=hK2;have YM:=YH;have YN:=YL;have hHq:=YJ;have hTq:=kD;have acj:=YK
    have hsl:¬dI (some y)<0:=by simp only[dI];omega
    generalize hsv:dI (some y)=sv at*
    have hsq:dI (fV T.gs (vals (pre++[x])))=sv:=by rw[hfr2];exact hsv
    unfold eD at Dr;obtain⟨p0,p1,p2,p3,p4,p5,p6⟩:=Dr.c7
   case' none=>
    rw[hfr]at hS2;simp only[eD,dI]at hS2;obtain⟨p0,p1,p2,p3,p4,p5,p6⟩:=hS2.c7;have v0:=VA.cell 0;simp only[List.getElem?_toArray,List.getElem?_cons_zero]at v0;obtain⟨q0,q1,q2,q3,q4,q5,q6⟩:=hS2.f7;have Ir:=qd (YB gb _ _ _ (x.val*25) _ w2.drew ((kD.below (Below.refl _ _).drew).group x.val hxn) (fun i hi=>YK i hi));obtain⟨fv,hfv⟩:∃fv,fv=uE (lG (T.gs.getD x.val [])):=⟨_,rfl⟩;rw[←hfv]at Ir;have Hfv:=qd hfv;clear hfv
    gi_wp2_with fail
    refine Bw (fun(w':World)=>w'.cell? ⟨vb,0,none⟩=some (.pointer (some ⟨gb,x.val*25,none⟩))) [5] (by kernel_rfl) (by kernel_rfl) (by rintro⟨_,_,h⟩;exact h) ?_
    try (change bH _ _ _ _ _ _ _ _ _ (World.drew _))
    have hHeld:=v0;refine vT 0 rfl ?_;refine vT 1 rfl ?_;refine nT 2 rfl fun K hK=> ?_;go_simp;refine(Ir.out).mono ?_;rintro e w3 ⟨rfl,hb3⟩;replace hb3:Below w2.heap.size w2 w3:=bX hb3 (Below.refl _ _).drew;go_wp2_with fail;have hHeld:=show(fun(w':World)=>w'.cell? ⟨vb,0,none⟩=some (.pointer (some ⟨gb,x.val*25,none⟩))) _ from aA hb3 v0;refine kO hK ?_;clear hK K;refine vW 3 rfl ?_;refine vW 4 rfl ?_;refine nT 5 rfl fun K hK=> ?_;have p5n:=aA hb3 p5;have p6n:=aA hb3 p6;have q5n:=(hS2.below hb3 hS2.lt).frozen 5;have q6n:=(hS2.below hb3 hS2.lt).frozen 6;go_simp;refine kO hK ?_;clear hK K;refine aY (by kernel_rfl) ?_ _
    have hfr2:fV T.gs (vals (pre++[x]))=(lG (T.gs.getD x.val [])).map fun s=>(x.val,s):=by rw[y7,uR,hfr];rfl
    have acn:dI (fV T.gs (vals (pre++[x])))=uE (lG (T.gs.getD x.val [])):=by rw[hfr2];cases lG (T.gs.getD x.val [])<;>rfl
    obtain⟨wq,hwq⟩:∃wq,wq=(w3.setCell ⟨W.heap.size,5,none⟩ (.pointer (some ⟨gb,x.val*25,none⟩))).setCell ⟨W.heap.size,6,none⟩ (.int .i64 fv):=⟨_,rfl⟩;rw[←hwq];have Mq:Mod [W.heap.size] w2 wq:=hwq▸(((Mod.of_below hb3 [W.heap.size]).ak (.inl (by simp)) _ _).ak (.inl (by simp)) _ _)
    have Tm:aj wq W.heap.size 199 (eD tb key hash none (-1) (some ⟨gb,x.val*25,none⟩) fv):=by
     have:=((hS2.below hb3 hS2.lt).ak 5 (.pointer (some ⟨gb,x.val*25,none⟩))).ak 6 (.int .i64 fv);rw[hwq];simpa only[List.setIfInBounds_toArray,List.set_cons_zero,List.set_cons_succ,eD]using this
    obtain⟨wH,JC⟩:∃wH:Option Addr,wH=some ⟨gb,x.val*25,none⟩:=⟨_,rfl⟩;rw[←JC]at Tm
    have KE:iO gb (fV T.gs (vals (pre++[x]))) wH:=fun a b hab=>by
     rw[hfr2]at hab
     cases hg2:lG (T.gs.getD x.val [])with
     |none=>
      rw[hg2]at hab;cases hab
     |some s2=>
      rw[hg2]at hab;cases hab;exact JC
    clear hwq JC;have KF:=VA.mod Mq (by simp;omega);have hKq:=YI.mod Mq (by simp;omega);have hHq:=YJ.mod Mq (by simp;omega);have NU:=hR2.mod Mq (by simp;omega);have VB:=hM2.mod Mq (by simp;omega);have hTq:=kD.mod Mq (by simp;omega) (by simp;omega);have aco:=hK2.size;have Dt:=dW hK2 (nK (Mq.wP (Nat.le_refl _)) aco (T:=[W.heap.size,mb]) (by simp;omega));have YM:=dW YH (nK (Mq.wP (Nat.le_refl _)) aco (T:=[W.heap.size,mb]) (by simp;omega));have YN:=YL.trans (jl Mq (by simp;omega));have acj:gZ wq:=Dt.tz hgs (by simp;omega) aci;obtain⟨sv,YO⟩:∃sv,sv=fv:=⟨_,rfl⟩;rw[←YO]at Tm
    have hsq:dI (fV T.gs (vals (pre++[x])))=sv:=by rw[acn,YO];exact Hfv.out.symm
    clear YO acn;have Dr:=Tm;unfold eD at Dr;clear Tm hS2 hm2 Mq v0 VA;obtain⟨pz0,pz1,pz2,pz3,pz4,pz5,pz6⟩:=Dr.c7
   all_goals
    have v0:=KF.cell 0;simp only[List.getElem?_toArray,List.getElem?_cons_zero]at v0;have kk0:=hKq.cell 0;simp only[List.getElem?_toArray,List.getElem?_cons_zero]at kk0;have hh0:=hHq.cell 0;simp only[List.getElem?_toArray,List.getElem?_cons_zero]at hh0;have Kq:=qd (uF (q:=7) (YA gb 239 (dz (T.gs.take x.val)) (dz (T.gs.drop (x.val+1))) (x.val*25) (T.gs.getD x.val []) wq (hTq.group x.val hxn) key hash h64 acj))
    cases hf:iA (T.gs.getD x.val []) key hash with
    |some s=>
     rw[hf]at Kq;simp only[uE]at Kq
     have hs0:(0:Int)≤(s:Int):=by omega
     gi_wp2_with fail
     refine⟨trivial,(CallsIn.inRound lp Kq.out).mono ?_⟩;rintro e w5 ⟨rfl,hb5⟩;have yY:=dW Dt (aV.of_below (n₀:=w1.heap.size) (S:=[W.heap.size,mb]) (hb5.mono (by have:=Dt.size;omega)));have Tn:=dW YM (aV.of_below (n₀:=w1.heap.size) (S:=[W.heap.size,mb]) (hb5.mono (by have:=Dt.size;omega)));have vZ:=YN.trans (jl (Mod.of_below hb5 []) (by simp));have hS5:=Dr.below hb5 Dr.lt;have KG:=NU.below hb5 NU.lt;have Rj:=KF.below hb5 KF.lt;have Rk:=VB.below hb5;have rR:=hTq.below hb5;obtain⟨s0,s1,s2,s3,s4,s5,s6⟩:=hS5.c7;obtain⟨sf0,sf1,sf2,sf3,sf4,sf5,sf6⟩:=hS5.f7;obtain⟨r0,r1,r2,r3,r4,r5,r6⟩:=KG.c7;obtain⟨rf0,rf1,rf2,rf3,rf4,rf5,rf6⟩:=KG.f7;have Rl:=Rj.cell 0;simp only[List.getElem?_toArray,List.getElem?_cons_zero]at Rl;clear v0 kk0 hh0 hS5 Rj hb5 Dr KF NU VB;obtain⟨w6,o8⟩:∃w6,w6=((((((((w5.setCell ⟨W.heap.size,3,none⟩ (.pointer (some ⟨gb,x.val*25,none⟩))).setCell ⟨W.heap.size,4,none⟩ (.int .i64 (s:Int))).setCell ⟨w.heap.size+1+1+1+1,0,none⟩ (.pointer (some ⟨tb,0,none⟩))).setCell ⟨w.heap.size+1+1+1+1,1,none⟩ (.int .u64 (key:Int))).setCell ⟨w.heap.size+1+1+1+1,2,none⟩ (.int .u64 (hash:Int))).setCell ⟨w.heap.size+1+1+1+1,3,none⟩ (.pointer (some ⟨gb,x.val*25,none⟩))).setCell ⟨w.heap.size+1+1+1+1,4,none⟩ (.int .i64 (s:Int))).setCell ⟨w.heap.size+1+1+1+1,5,none⟩ (.pointer wH)).setCell ⟨w.heap.size+1+1+1+1,6,none⟩ (.int .i64 sv):=⟨_,rfl⟩
     have M6:Mod [W.heap.size,w.heap.size+1+1+1+1] w5 w6:=o8▸((((((((((Mod.refl [W.heap.size,w.heap.size+1+1+1+1] w5).ak (.inl (by simp)) _ _).ak (.inl (by simp)) _ _).ak (.inl (by simp)) _ _).ak (.inl (by simp)) _ _).ak (.inl (by simp)) _ _).ak (.inl (by simp)) _ _).ak (.inl (by simp)) _ _).ak (.inl (by simp)) _ _).ak (.inl (by simp)) _ _)
     have B6:aj w6 (w.heap.size+1+1+1+1) 199 (eD tb key hash (some ⟨gb,x.val*25,none⟩) (s:Int) wH sv):=by
      have:=(((((((((KG).far (p:=⟨W.heap.size,3,none⟩) (by show w.heap.size+1+1+1+1≠W.heap.size;omega) (.pointer (some ⟨gb,x.val*25,none⟩))).far (p:=⟨W.heap.size,4,none⟩) (by show w.heap.size+1+1+1+1≠W.heap.size;omega) (.int .i64 (s:Int))).ak 0 (.pointer (some ⟨tb,0,none⟩))).ak 1 (.int .u64 (key:Int))).ak 2 (.int .u64 (hash:Int))).ak 3 (.pointer (some ⟨gb,x.val*25,none⟩))).ak 4 (.int .i64 (s:Int))).ak 5 (.pointer wH)).ak 6 (.int .i64 sv);rw[o8];simpa only[List.setIfInBounds_toArray,List.set_cons_zero,List.set_cons_succ,eD]using this
     have T6:=Rk.mod M6 (by simp;omega);have K6:aV w.heap.size [mb] w w6:=dW (dW (aV.of_below (Al.trans (hb1.mono Al.size))) (nK yY (by omega) (by simp;omega))) (nK (M6.wP (Nat.le_refl _)) (by have:=yY.size;have:=Al.size;omega) (by simp;omega));have F6:KeepsFrom w1.heap.size V w6:=vZ.trans (jl M6 (by simp;omega));have HE:=qd (And.intro B6 (And.intro T6 (And.intro K6 F6)));clear M6 B6 T6 K6 F6;have VD:=qd o8;clear o8
     gi_wp2
     rw[←VD.out];exact⟨HE.out.2.2.2,⟨rfl,pre,x,some ⟨gb,x.val*25,none⟩,wH,rfl,hps,.inl (by rw[hf];simp),by rw[hsq,wQ,hf];exact HE.out.1,fun a b hab=>by rw[wQ,hf]at hab;cases hab;rfl,KE,by rw[List.length_append];exact HE.out.2.1⟩,HE.out.2.2.1⟩
    |none=>
     rw[hf]at Kq;simp only[uE]at Kq
     gi_wp2_with fail
     refine⟨trivial,(CallsIn.inRound lp Kq.out).mono ?_⟩;rintro e w4 ⟨rfl,hb4⟩;have hK4:=dW Dt (aV.of_below (n₀:=w1.heap.size) (S:=[W.heap.size,mb]) (hb4.mono (by have:=Dt.size;omega)));have acp:=dW YM (aV.of_below (n₀:=w1.heap.size) (S:=[W.heap.size,mb]) (hb4.mono (by have:=Dt.size;omega)));have Dm:=YN.trans (jl (Mod.of_below hb4 []) (by simp));have KH:=Dr.below hb4 Dr.lt;have sO:=NU.below hb4 NU.lt;have Rm:=KF.below hb4 KF.lt;have Iu:=VB.below hb4;have Rn:=hTq.below hb4;have Rl:=Rm.cell 0;simp only[List.getElem?_toArray,List.getElem?_cons_zero]at Rl;have NV:=qd (uF (q:=7) (YC gb _ _ _ (x.val*25) _ w4 (Rn.group x.val hxn)))
     cases ho':dQ (T.gs.getD x.val [])with
     |true=>
      rw[ho']at NV;have ho:dQ (T.gs.getD x.val [])=true:=ho'
      gi_wp2_with fail
      refine⟨trivial,(CallsIn.inRound lp NV.out).mono ?_⟩;rintro e w5 ⟨rfl,hb5⟩;have yY:=dW hK4 (aV.of_below (n₀:=w1.heap.size) (S:=[W.heap.size,mb]) (hb5.mono (by have:=hK4.size;omega)));have Tn:=dW acp (aV.of_below (n₀:=w1.heap.size) (S:=[W.heap.size,mb]) (hb5.mono (by have:=hK4.size;omega)));have vZ:=Dm.trans (jl (Mod.of_below hb5 []) (by simp));have hS5:=KH.below hb5 KH.lt;have KG:=sO.below hb5 sO.lt;have Rj:=Rm.below hb5 Rm.lt;have Rk:=Iu.below hb5;have rR:=Rn.below hb5;obtain⟨s0,s1,s2,s3,s4,s5,s6⟩:=hS5.c7;obtain⟨sf0,sf1,sf2,sf3,sf4,sf5,sf6⟩:=hS5.f7;obtain⟨r0,r1,r2,r3,r4,r5,r6⟩:=KG.c7;obtain⟨rf0,rf1,rf2,rf3,rf4,rf5,rf6⟩:=KG.f7;have Rl:=Rj.cell 0;simp only[List.getElem?_toArray,List.getElem?_cons_zero]at Rl;clear v0 kk0 hh0 Rl hS5 Rj hb5 Dr KF NU VB KH sO Rm Iu;obtain⟨w6,o8⟩:∃w6,w6=((((((w5.setCell ⟨w.heap.size+1+1+1+1,0,none⟩ (.pointer (some ⟨tb,0,none⟩))).setCell ⟨w.heap.size+1+1+1+1,1,none⟩ (.int .u64 (key:Int))).setCell ⟨w.heap.size+1+1+1+1,2,none⟩ (.int .u64 (hash:Int))).setCell ⟨w.heap.size+1+1+1+1,3,none⟩ (.pointer none)).setCell ⟨w.heap.size+1+1+1+1,4,none⟩ (.int .i64 (-1))).setCell ⟨w.heap.size+1+1+1+1,5,none⟩ (.pointer wH)).setCell ⟨w.heap.size+1+1+1+1,6,none⟩ (.int .i64 sv):=⟨_,rfl⟩
      have M6:Mod [W.heap.size,w.heap.size+1+1+1+1] w5 w6:=o8▸((((((((Mod.refl [W.heap.size,w.heap.size+1+1+1+1] w5).ak (.inl (by simp)) _ _).ak (.inl (by simp)) _ _).ak (.inl (by simp)) _ _).ak (.inl (by simp)) _ _).ak (.inl (by simp)) _ _).ak (.inl (by simp)) _ _).ak (.inl (by simp)) _ _)
      have B6:aj w6 (w.heap.size+1+1+1+1) 199 (eD tb key hash none (-1) wH sv):=by
       have:=(((((((KG).ak 0 (.pointer (some ⟨tb,0,none⟩))).ak 1 (.int .u64 (key:Int))).ak 2 (.int .u64 (hash:Int))).ak 3 (.pointer none)).ak 4 (.int .i64 (-1))).ak 5 (.pointer wH)).ak 6 (.int .i64 sv);rw[o8];simpa only[List.setIfInBounds_toArray,List.set_cons_zero,List.set_cons_succ,eD]using this
      have T6:=Rk.mod M6 (by simp;omega);have K6:aV w.heap.size [mb] w w6:=dW (dW (aV.of_below (Al.trans (hb1.mono Al.size))) (nK yY (by omega) (by simp;omega))) (nK (M6.wP (Nat.le_refl _)) (by have:=yY.size;have:=Al.size;omega) (by simp;omega));have F6:KeepsFrom w1.heap.size V w6:=vZ.trans (jl M6 (by simp;omega));have HE:=qd (And.intro B6 (And.intro T6 (And.intro K6 F6)));clear M6 B6 T6 K6 F6;have VD:=qd o8;clear o8
      gi_wp2
      rw[←VD.out];exact⟨HE.out.2.2.2,⟨rfl,pre,x,none,wH,rfl,hps,.inr ho,by rw[hsq,wQ,hf];exact HE.out.1,(fun a b hab=>by rw[wQ,hf]at hab;cases hab),KE,by rw[List.length_append];exact HE.out.2.1⟩,HE.out.2.2.1⟩
     |false=>
      rw[ho']at NV
      gi_wp2_with fail
      refine⟨trivial,(CallsIn.inRound lp NV.out).mono ?_⟩;rintro e w5 ⟨rfl,hb5⟩;have yY:=dW hK4 (aV.of_below (n₀:=w1.heap.size) (S:=[W.heap.size,mb]) (hb5.mono (by have:=hK4.size;omega)));have Tn:=dW acp (aV.of_below (n₀:=w1.heap.size) (S:=[W.heap.size,mb]) (hb5.mono (by have:=hK4.size;omega)));have vZ:=Dm.trans (jl (Mod.of_below hb5 []) (by simp));have hS5:=KH.below hb5 KH.lt;have KG:=sO.below hb5 sO.lt;have Rj:=Rm.below hb5 Rm.lt;have Rk:=Iu.below hb5;have rR:=Rn.below hb5;have HPs:=qd (show∀y∈pre++[x],Passed T.gs key hash y.val from fun y hy=>(List.mem_append.1 hy).elim (hps y) (fun e=>by simp at e;subst e;exact⟨hf,ho'⟩));have HL5:=qd (show Met w5 mb mt kr iP mo (gH a0 c (pre++[x]).length) (gH l0 c (pre++[x]).length) m from by rw[List.length_append];exact Rk);have VE:=qd (show∃fp,aj w5 W.heap.size 199 (eD tb key hash none (-1) fp (dI (fV T.gs (vals (pre++[x])))))∧iO gb (fV T.gs (vals (pre++[x]))) fp from⟨wH,by rw[hsq];exact hS5,KE⟩);have HE:=qd (And.intro vZ (And.intro Tn yY));clear hps hf ho' Rk hS5 vZ Tn yY
      gi_wp2
      exact⟨HE.out.1,HE.out.2.1,⟨VE.out,HL5.out,HPs.out⟩,HE.out.2.2⟩
 case done=>
  rintro D ys V hD hys ⟨⟨⟨fp,Dp,hfp⟩,Rh,hps⟩,oZ⟩ rQ
  have hse:aH T.gs key hash=(none,fV T.gs (vals ys),ys.length):=by
   have:=YE (gs:=T.gs) (key:=key) (hash:=hash) (pre:=vals ys) hys (fun i hi=>by
    obtain⟨y,hy,rfl⟩:=List.mem_map.1 hi
    exact hps y hy)
   rw[this];simp[vals]
  have tY:=oZ.blk tV (by omega) (by simp;omega);obtain⟨sv,YP⟩:∃sv,dI (fV T.gs (vals ys))=sv:=⟨_,rfl⟩;rw[YP]at Dp;unfold eD at Dp;have s0:=Dp.cell 0;have s1:=Dp.cell 1;have s2:=Dp.cell 2;have s3:=Dp.cell 3;have s4:=Dp.cell 4;have s5:=Dp.cell 5;have s6:=Dp.cell 6;have r0:=tY.cell 0;have r1:=tY.cell 1;have r2:=tY.cell 2;have r3:=tY.cell 3;have r4:=tY.cell 4;have r5:=tY.cell 5;have r6:=tY.cell 6;simp only[gl]at s0 s1 s2 s3 s4 s5 s6 r0 r1 r2 r3 r4 r5 r6;obtain⟨f0,f1,f2,f3,f4,f5,f6⟩:=tY.f7;obtain⟨w6,o8⟩:∃w6,w6=((((((V.setCell ⟨w.heap.size+1+1+1+1,0,none⟩ (.pointer (some ⟨tb,0,none⟩))).setCell ⟨w.heap.size+1+1+1+1,1,none⟩ (.int .u64 (key:Int))).setCell ⟨w.heap.size+1+1+1+1,2,none⟩ (.int .u64 (hash:Int))).setCell ⟨w.heap.size+1+1+1+1,3,none⟩ (.pointer none)).setCell ⟨w.heap.size+1+1+1+1,4,none⟩ (.int .i64 (-1))).setCell ⟨w.heap.size+1+1+1+1,5,none⟩ (.pointer fp)).setCell ⟨w.heap.size+1+1+1+1,6,none⟩ (.int .i64 sv):=⟨_,rfl⟩;have M6:Mod [w.heap.size+1+1+1+1] V w6:=o8▸((((((((Mod.refl [w.heap.size+1+1+1+1] V).ak (.inl (by simp)) _ _).ak (.inl (by simp)) _ _).ak (.inl (by simp)) _ _).ak (.inl (by simp)) _ _).ak (.inl (by simp)) _ _).ak (.inl (by simp)) _ _).ak (.inl (by simp)) _ _)
  have O6:KeepsOthers V w6:=o8▸((((((((KeepsOthers.refl V).trans (KeepsOthers.setCell _ ⟨w.heap.size+1+1+1+1,0,none⟩ (.pointer (some ⟨tb,0,none⟩)))).trans (KeepsOthers.setCell _ ⟨w.heap.size+1+1+1+1,1,none⟩ (.int .u64 (key:Int)))).trans (KeepsOthers.setCell _ ⟨w.heap.size+1+1+1+1,2,none⟩ (.int .u64 (hash:Int)))).trans (KeepsOthers.setCell _ ⟨w.heap.size+1+1+1+1,3,none⟩ (.pointer none))).trans (KeepsOthers.setCell _ ⟨w.heap.size+1+1+1+1,4,none⟩ (.int .i64 (-1)))).trans (KeepsOthers.setCell _ ⟨w.heap.size+1+1+1+1,5,none⟩ (.pointer fp))).trans (KeepsOthers.setCell _ ⟨w.heap.size+1+1+1+1,6,none⟩ (.int .i64 sv)))
  have B6:aj w6 (w.heap.size+1+1+1+1) 199 (eD tb key hash none (-1) fp sv):=by
   have:=(((((((tY).ak 0 (.pointer (some ⟨tb,0,none⟩))).ak 1 (.int .u64 (key:Int))).ak 2 (.int .u64 (hash:Int))).ak 3 (.pointer none)).ak 4 (.int .i64 (-1))).ak 5 (.pointer fp)).ak 6 (.int .i64 sv);rw[o8];simpa only[List.setIfInBounds_toArray,List.set_cons_zero,List.set_cons_succ,eD]using this
  have Tp:=O6.same D _ rQ rfl;have xP:=Aj B6 (grownBy_putObj' w6 D (.deferred none)) (fun r e=>by cases e;exact⟨_,Tp,rfl⟩);have hMP:=EJ (Rh.mod M6 (by simp;omega)) (grownBy_putObj' w6 D (.deferred none)) (fun r e=>by cases e;exact⟨_,Tp,rfl⟩);have Rc:Mod [mb] w (w6.putObj D (.deferred none)):=(dW (dW (dW (aV.of_below (Al.trans (hb1.mono Al.size))) (nK oZ (by omega) (by simp;omega))) (nK (M6.wP (Nat.le_refl _)) (by have:=oZ.size;omega) (by simp;omega))) (xE (w:=w) (Nat.le_refl _) w6 D _ _ (by omega) Tp rfl rfl)).mod;have HE:=qd (And.intro hMP Rc);have VD:=qd o8;have HSe:=qd hse;have Hsv:=qd YP;clear o8 M6 O6 B6 hMP Rc hse YP;go_wp2;rw[←VD.out];refine xG ⟨by simp,.inl ⟨_,_,rfl,run_takeDeferred Tp, ?_⟩⟩;have d0:=xP.cell 0;have d1:=xP.cell 1;have d2:=xP.cell 2;have d3:=xP.cell 3;have d4:=xP.cell 4;have d5:=xP.cell 5;have d6:=xP.cell 6;simp only[eD,List.getElem?_toArray,List.getElem?_cons_zero,List.getElem?_cons_succ]at d0 d1 d2 d3 d4 d5 d6;refine⟨.agg (eD tb key hash none (-1) fp sv), ?_,none,fp, ?_⟩
  ·simp[results,Tryz.f99,go_sem,d0,d1,d2,d3,d4,d5,d6,eD]
  ·rw[HSe.out];exact⟨by rw[Hsv.out];rfl,(fun i s hab=>by cases hab),hfp,HE.out.1,HE.out.2⟩
 case stop=>
  rintro D cd pre V hD ⟨j,hj,hj2⟩ ⟨⟨rfl,pre',x,ap,fp,he,hps,hend,tY,hap,hfp,Rh⟩,oZ⟩ rQ;subst he;have hse:=Vz hj2 hps hend;have hc0:=tY.cell 0;have hc1:=tY.cell 1;have hc2:=tY.cell 2;have hc3:=tY.cell 3;have hc4:=tY.cell 4;have hc5:=tY.cell 5;have hc6:=tY.cell 6;have xP:aj (V.putObj D (.deferred none)) (w.heap.size+1+1+1+1) 199 _:=Aj tY (grownBy_putObj' V D (.deferred none)) (fun r e=>by cases e;exact⟨_,rQ,rfl⟩);have hMP:=EJ Rh (grownBy_putObj' V D (.deferred none)) (fun r e=>by cases e;exact⟨_,rQ,rfl⟩)
  gi_wp2
  refine xG ⟨by simp,.inl ⟨_,_,rfl,run_takeDeferred rQ, ?_⟩⟩;have d0:=xP.cell 0;have d1:=xP.cell 1;have d2:=xP.cell 2;have d3:=xP.cell 3;have d4:=xP.cell 4;have d5:=xP.cell 5;have d6:=xP.cell 6;simp only[eD,List.getElem?_toArray,List.getElem?_cons_zero,List.getElem?_cons_succ]at d0 d1 d2 d3 d4 d5 d6;refine⟨.agg (eD tb key hash ap (dI (wQ T.gs key hash x.val)) fp (dI (fV T.gs (vals (pre'++[x]))))), ?_,ap,fp, ?_⟩
  ·simp[results,Tryz.f99,go_sem,d0,d1,d2,d3,d4,d5,d6,eD]
  ·rw[hse];exact⟨rfl,hap,hfp,hMP,(dW oZ (xE (w:=w) (Nat.le_refl _) V D _ _ (by have:=Al.size;omega) rQ rfl rfl)).mod⟩
end Go.Proofs.YtbfpfgfgfjhpfaaGreatDoor

/-! Where a seek ends: the places are of the table. No program in sight. -/
namespace Go.Proofs.YtbfpfgfgfjhpfaaGreatDoor.dP
set_option maxRecDepth 100000
set_option maxHeartbeats 4000000
open Go.RowKit Go.Shelf dP Go
theorem Tq {G:kW}{s:Nat}(h:lG G=some s):s<G.length∧(G.getD s .empty).isFull=false:=by
 obtain⟨hk,hp,_⟩:=List.findIdx?_eq_some_iff_getElem.1 h;refine⟨hk, ?_⟩;rw[getD_in hk];simpa using hp
def Du (gs:Tab)(x:Option (Nat×Nat)):Prop:=∀i s,x=some (i,s)→i<gs.length∧s<(gs.getD i []).length∧(aF gs i s).isFull=false
theorem VF {gs:Tab}{fr:Option (Nat×Nat)}(h:Du gs fr){i:Nat}(hi:i<gs.length):Du gs (iV fr i (gs.getD i [])):=by
 intro a b hab
 cases fr with
 |some x=>exact h a b hab
 |none=>
  unfold iV at hab;dsimp only at hab
  cases hg:lG (gs.getD i [])with
  |none=>rw[hg]at hab;cases hab
  |some s=>
   rw[hg]at hab;cases hab;exact⟨hi,Tq hg⟩
theorem KI (gs:Tab)(key hash:Nat):∀(l:List Nat) (fr:Option (Nat×Nat)),(∀i∈l,i<gs.length)→Du gs fr→Du gs (ko gs key hash l fr).2.1
 | [],_,_,h=>h
 |i::is,fr,hl,h=>by
  have h1:=VF h (hl i (by simp));have ih:=KI gs key hash is _ (fun x hx=>hl x (by simp[hx])) h1;rw[ko]
  cases iA (gs.getD i []) key hash with
  |some s=>exact h1
  |none=>
   cases dQ (gs.getD i [])with
   |true=>exact h1
   |false=>exact ih
theorem walk_lt {h n i:Nat}(hn:0<n)(hi:i∈walk h n):i<n:=by
 obtain⟨j,_,rfl⟩:=List.mem_map.1 hi;exact Nat.mod_lt _ hn
theorem zH (gs:Tab)(hn:0<gs.length)(key hash:Nat):Du gs (aH gs key hash).2.1:=by
 rw[y5];exact KI gs key hash _ none (fun i hi=>walk_lt hn hi) (fun _ _ h=>by cases h)
theorem Dv {gs:Tab}{key hash i s:Nat}(h:(aH gs key hash).1=some (i,s)):∃e,aF gs i s= .full e∧e.key=key∧i<gs.length∧s<(gs.getD i []).length:=by
 obtain⟨e,h1,h2,_⟩:=Hu h;have:=kK (gs:=gs) (i:=i) (s:=s) (by rw[h1];simp);exact⟨e,h1,h2,this⟩
end Go.Proofs.YtbfpfgfgfjhpfaaGreatDoor.dP
