/- A table's Seek by its contract. -/
import Derived.Test.YtkkibocdfijnhaaGreatDoorTabS
import Derived.Test.YtkkibocdfijnhaaGreatDoorCoO
import Derived.Test.YtkkibocdfijnhaaGreatDoorLaneP
namespace Go.Proofs.YtkkibocdfijnhaaGreatDoor
set_option maxRecDepth 100000
set_option maxHeartbeats 4000000
open Go.RowKit Go.Shelf bV Go
variable {S : List Nat} {X Y w w' : World} {row : Option Nat} {t : TypeId} {n : Nat}
attribute [local go_sem] Oper.semAt_some
def eX (a c:bC):Nat→bC
 |0=>a
 |k+1=>ji (eX a c k) c
theorem Mod.cell_ (h:Mod S w w'){p:Addr}(hp:p.block<w.heap.size)(hs:p.block∉S):w'.cell? p=w.cell? p:=World.cell?_of_block (w:=w) (h.block p.block hp hs)
theorem jd {B:Nat}(h:Mod S w w')(hS:∀k,k∈S→k<B):KeepsFrom B w w':=⟨h.size,fun k o hB hk _=>(h.block k (Array.getElem?_eq_some_iff.1 hk).1 (fun hh=>absurd (hS k hh) (by omega))).trans hk⟩
theorem nk {n₀ n₁:Nat}{T:List Nat}{A B:World}(h:aY n₀ S A B)(hn:n₁≤n₀)(hS:∀k,k<n₁→k∈S→k∈T):aY n₁ T A B:=⟨h.os,h.tape,h.output,h.size,fun k hk hT=>h.block k (by omega) (fun hh=>hT (hS k hk hh))⟩
theorem zK {g:Nat}{cs:Array Value}(h:aj X g t cs)(hg:X.grownBy Y row)(hr:∀r,row=some r→∃o:Obj,X.heap[r]?=some o∧o.isCells=false):aj Y g t cs:=by
 refine(hg.block g h.lt (fun e=> ?_)).trans h;obtain⟨o,ho,hc⟩:=hr g e.symm;rw[show X.heap[g]?=_ from h]at ho;cases ho;cases hc
theorem DU {mb:Nat}{pre post:List Value}{mo:Nat}{a l:bC}{m:Int}(h:Met X mb t pre post mo a l m)(hg:X.grownBy Y row)(hr:∀r,row=some r→∃o:Obj,X.heap[r]?=some o∧o.isCells=false):Met Y mb t pre post mo a l m:=⟨h.len,zK h.blk hg hr⟩
def bT (x:Option (Nat×Nat)):Int:=match x with
 |some y=>(y.2:Int)
 |none=> -1
def dZ (tb key hash:Nat)(ap:Option Addr)(as_:Int)(fp:Option Addr)(fs:Int):Array Value:= #[pQ tb,nU key,nU hash,.pointer ap,.int .i64 as_,.pointer fp,.int .i64 fs]
def iF (gb:Nat)(x:Option (Nat×Nat))(p:Option Addr):Prop:=∀i s,x=some (i,s)→p=some ⟨gb,i*25,none⟩
def vals {n:Nat}(pre:List (Fin n)):List Nat:=pre.map Fin.val
theorem yC (pre:List (Fin n))(x:Fin n):vals (pre++[x])=vals pre++[x.val]:=by simp[vals]
def wB (gs:Tab)(key hash i:Nat):Option (Nat×Nat):=(ig (gs.getD i []) key hash).map fun s=>(i,s)
theorem Ui {gs:Tab}{key hash:Nat}{pre:List (Fin n)}{x:Fin n}{j:Nat}(hj:vals (pre++[x])=(walk (hash/128) gs.length).take j)(h:∀y∈pre,Passed gs key hash y.val)(he:ig (gs.getD x.val []) key hash≠none∨dL (gs.getD x.val [])=true):aJ gs key hash=(wB gs key hash x.val,fO gs (vals (pre++[x])),(pre++[x]).length):=by
 have hw:vals pre++x.val::(walk (hash/128) gs.length).drop j=walk (hash/128) gs.length:=by
  have:=List.take_append_drop j (walk (hash/128) gs.length);rw[←hj,yC,List.append_assoc]at this;exact this
 have hp:∀i∈vals pre,Passed gs key hash i:=fun i hi=>by
  obtain⟨y,hy,rfl⟩:=List.mem_map.1 hi;exact h y hy
 have hlen:(vals pre++[x.val]).length=(pre++[x]).length:=by simp[vals]
 unfold wB;rw[yC,←hlen]
 cases hf:ig (gs.getD x.val []) key hash with
 |some s=>exact Xu hw hp hf
 |none=>
  rcases he with he|he
  ·exact absurd hf he
  ·exact Uh hw hp hf he
theorem rH (tb gb key hash:Nat)(T:aC)(mb:Nat)(mt:TypeId)(gY eY:List Value)(mo:Nat)(a0 l0:bC)(m:Int)(c:bC)(w:World)(h:TabAt w tb gb T)(hP:Pw T.gs.length)(h64:hash<18446744073709551616)(hM:Met w mb mt gY eY mo a0 l0 m)(hmt:mb≠tb)(gU:mb≠gb)(hT:gG w)(hz:16 ≠mb):
  Calls Tryz.prog 108 #[bQ tb,aI (some ⟨mb,mo,none⟩) c,nU key,nU hash] w fun e w'=>∃ap fp,e= .returned (bN tb key hash ap (bT (aJ T.gs key hash).1) fp (bT (aJ T.gs key hash).2.1))∧
   (∀i s,(aJ T.gs key hash).1=some (i,s)→ap=some ⟨gb,i*25,none⟩)∧(∀i s,(aJ T.gs key hash).2.1=some (i,s)→fp=some ⟨gb,i*25,none⟩)∧
   Met w' mb mt gY eY mo (eX a0 c (aJ T.gs key hash).2.2) (eX l0 c (aJ T.gs key hash).2.2) m∧Mod [mb] w w':=by
 obtain⟨W,hW,hB,hA,hL,hK,hH,hR⟩:=qX5 w 157 #[pQ tb] 147 #[.pointer (some ⟨mb,mo,none⟩),.int .i64 c.p,.int .i64 c.v,.int .i64 c.u] 35 #[nU key] 35 #[nU hash] 207 #[.pointer none,.int .u64 0,.int .u64 0,.pointer none,.int .i64 0,.pointer none,.int .i64 0];have lX:=h.below hB;have hMW:=hM.below hB;have HW:=qd hW;have HB:=qd hB;have hg:=World.block_lt_of_cell? w _ (hT 0 (by omega));have htl:=h.aR;have hgl:=h.aS;have hml:=hM.lt;unfold bQ aI bN;clear hW hB h hM;refine(callsIn_wide (n:=10)).1 ?_
 have h1:1≤10:=by omega
 refine lg Tryz.func108 rfl trivial rfl ?_;simp only[Tryz.ntmps108,List.size_toArray,List.length_cons,List.length_nil,Nat.reduceAdd,Nat.reduceSub,Array.replicate_succ,Array.replicate_zero,List.push_toArray,List.append_toArray,List.nil_append,List.cons_append];refine wpIn_wide.2 ?_;go_upto_region 1 with fail;rw[←HW.out];have ca0:=hA.cell 0;simp only[List.getElem?_toArray,List.getElem?_cons_zero]at ca0;have ck0:=hK.cell 0;simp only[List.getElem?_toArray,List.getElem?_cons_zero]at ck0;have ch0:=hH.cell 0;simp only[List.getElem?_toArray,List.getElem?_cons_zero]at ch0;go_upto_region 2 with fail;have hSp:=aj.new W 207 #[pQ tb,nU key,nU hash,.pointer none,.int .i64 (-1),.pointer none,.int .i64 (-1)];have hBW:=(Below.refl W.heap.size W).alloc (Nat.le_refl _) (.cells #[pQ tb,nU key,nU hash,.pointer none,.int .i64 (-1),.pointer none,.int .i64 (-1)] 207);obtain⟨W1,hW1⟩:∃W1,W1=W.alloc (.cells #[pQ tb,nU key,nU hash,.pointer none,.int .i64 (-1),.pointer none,.int .i64 (-1)] 207):=⟨_,rfl⟩;rw[←hW1]at hSp hBW⊢;have HW1:=qd hW1;clear hW1;have hT1:=lX.below hBW;have hM1:=hMW.below hBW;have ht:=aA hBW ca0;have hh:=aA hBW ch0;have hc:=hT1.cells.1;have zL:Below w.heap.size w W1:=bL hBW HB.out;have hlR:=hR.lt;have ae8:=hSp.lt
 refine rT (fun(w':World)=>w'.cell? ⟨w.heap.size+1+1+1,0,none⟩=some (nU hash)∧w'.cell? ⟨w.heap.size,0,none⟩=some (pQ tb)∧w'.cell? ⟨tb,0,none⟩=some (.slice (some ⟨gb,0,none⟩) T.gs.length T.gs.length)) [] ?_;have hHeld:=(⟨hh,ht,hc⟩:_∧_∧_);refine vT 0 rfl ?_;refine vT 2 rfl ?_;refine vW 3 rfl ?_;refine vW 4 rfl ?_;refine vT 5 rfl ?_;refine vW 6 rfl ?_;refine nT 1 rfl fun K hK=> ?_;go_simp;refine(WW hash _).mono ?_;rintro e w1 ⟨rfl,rfl⟩;go_wp2_with fail;have hHeld:=(⟨hh,ht,hc⟩:_∧_∧_);refine kO hK ?_;clear hK K;refine nT 7 rfl fun K hK=> ?_;go_simp;refine(Rt (hash/128) T.gs.length _).mono ?_;rintro e w1 ⟨rfl,hw1⟩;have hb1:Below W1.heap.size W1 w1:=hw1▸(((Below.refl W1.heap.size W1).drew).alloc (Nat.le_refl _) _).alloc (by simp) _;have wZ:aj w1 W1.heap.size 35 #[.int .u64 ((hash/128:Nat):Int)]:=hw1▸(aj.new W1.drew _ _).alloc _
 have hBg:aj w1 (W1.heap.size+1) 3 #[nI T.gs.length]:=by rw[←hw1];have h0:=aj.new (W1.drew.alloc (.cells #[.int .u64 ((hash/128:Nat):Int)] 35)) 3 #[nI T.gs.length];rw[show(W1.drew.alloc (.cells #[.int .u64 ((hash/128:Nat):Int)] 35)).heap.size=W1.heap.size+1 by simp]at h0;exact h0
 clear hw1;go_wp2_with fail;replace hh:=aA hb1 hh;replace ht:=aA hb1 ht;replace hc:=aA hb1 hc;have hHeld:=(⟨hh,ht,hc⟩:_∧_∧_);refine kO hK ?_;clear hK K;refine aU (by kernel_rfl) ?_ _;go_wp2_with fail;refine(wpIn_wide (n:=10)).1 ?_;have hA1:=(hA.below hBW hA.lt).below hb1 (hA.below hBW hA.lt).lt;have hL1:=(hL.below hBW hL.lt).below hb1 (hL.below hBW hL.lt).lt;have hK1:=(hK.below hBW hK.lt).below hb1 (hK.below hBW hK.lt).lt;have hH1:=(hH.below hBW hH.lt).below hb1 (hH.below hBW hH.lt).lt;have sO:=(hR.below hBW hR.lt).below hb1 (hR.below hBW hR.lt).lt;have hTw:=hT1.below hb1;have abI:gG w1:=fun i hi=>((zL.trans (hb1.mono zL.size)).cell (p:=⟨16,o9 i,none⟩) hg).trans (hT i hi);have hbl:=hb1.size
 have hgs:16 <w1.heap.size:=by have:=zL.size;omega
 refine wpIn_rangeFunc_ownH rfl h1 (gf:=185) (lb:= #[.pointer (some ⟨W1.heap.size+1,0,none⟩),pQ W1.heap.size]) rfl trivial (enters_of Tryz.func185 (by kernel_rfl) rfl)
  (Ru (10-1) (by omega) (W1.heap.size+1) W1.heap.size w1.heap.size [W.heap.size,mb] (hash/128) T.gs.length (by omega) hP w1 hBg.lt (by simp;omega) wZ.lt (Nat.le_refl _) (hBg.cell 0) (wZ.cell 0)) dS (wP (Nat.le_refl _)) (Below.refl _ _) (fun _=>rfl)
  (fun pre V=>((∃fp,aj V W.heap.size 207 (dZ tb key hash none (-1) fp (bT (fO T.gs (vals pre))))∧iF gb (fO T.gs (vals pre)) fp)∧Met V mb mt gY eY mo (eX a0 c pre.length) (eX l0 c pre.length) m∧∀y∈pre,Passed T.gs key hash y.val)∧aY w1.heap.size [W.heap.size,mb] w1 V)
  (fun cd pre V=>(cd= .ret∧∃pre' x ap fp,pre=pre'++[x]∧(∀y∈pre',Passed T.gs key hash y.val)∧(ig (T.gs.getD x.val []) key hash≠none∨dL (T.gs.getD x.val [])=true)∧
   aj V (w.heap.size+1+1+1+1) 207 (dZ tb key hash ap (bT (wB T.gs key hash x.val)) fp (bT (fO T.gs (vals pre))))∧iF gb (wB T.gs key hash x.val) ap∧iF gb (fO T.gs (vals pre)) fp∧
   Met V mb mt gY eY mo (eX a0 c pre.length) (eX l0 c pre.length) m)∧aY w.heap.size [mb] w V)
  (OwnFrom.and (fun _ X Y row hs hg hr=>by
   obtain⟨⟨fp,h2,h3⟩,h4,h5⟩:=hs
   exact⟨⟨fp,zK h2 hg (fun r e=>(hr r e).2),h3⟩,DU h4 hg (fun r e=>(hr r e).2),h5⟩) (qc (Nat.le_refl _) (Nat.le_refl _)))
  (fun cd=>OwnFrom.and (fun _ X Y row hs hg hr=>by
   obtain⟨h0,pre',x,ap,fp,h2,h3,h4,h5,h6,h7,h8⟩:=hs
   exact⟨h0,pre',x,ap,fp,h2,h3,h4,zK h5 hg (fun r e=>(hr r e).2),h6,h7,DU h8 hg (fun r e=>(hr r e).2)⟩) (qc (Nat.le_refl _) (by have:=zL.size;omega)))
  ⟨⟨⟨none,hSp.below hb1 hSp.lt,fun i s he=>by cases he⟩,hM1.below hb1,by simp⟩,aY.refl _ _ _⟩
  (fun x a' _=>a'={tmps:= #[pQ tb,.agg #[.pointer (some ⟨mb,mo,none⟩),.int .i64 c.p,.int .i64 c.v,.int .i64 c.u],nU key,nU hash,pQ w.heap.size,.pointer (some ⟨w.heap.size+1,0,none⟩),.pointer (some ⟨w.heap.size+1+1,0,none⟩),.pointer (some ⟨w.heap.size+1+1+1,0,none⟩),.pointer (some ⟨w.heap.size+1+1+1+1,0,none⟩),pQ W.heap.size,nI x.val,undef,undef,pQ tb,nU key,nU hash,.agg #[.pointer none,.int .i64 (-1)],.agg #[.pointer none,.int .i64 (-1)],.agg #[pQ tb,nU key,nU hash,.pointer none,.int .i64 (-1),.pointer none,.int .i64 (-1)],nU hash,.int .u64 ((hash:Int)/128),pQ tb,pQ tb,pQ tb,.slice (some ⟨gb,0,none⟩) T.gs.length T.gs.length,nI T.gs.length,.func (.func 185) #[] #[.pointer (some ⟨W1.heap.size+1,0,none⟩),pQ W1.heap.size],nI x.val,undef,undef,undef,undef,undef,undef,undef,undef,undef,undef,undef,undef,undef,undef,undef,undef,undef,undef,undef,undef,undef,undef,undef,undef,undef,undef,undef,undef,undef,undef,undef,undef],defers:=[]})
  (fun _ _ _ _ _ _ hs _ _=>hs) ?assign ?body ?done ?stop
 case assign=>
  rintro lp pre x V K hi hK
  gi_wp2
  exact hK _ _ (KeepsFrom.refl _ _) (aY.refl _ _ _) hi rfl
 case body=>
  rintro lp pre x a' V hl ⟨r,hr⟩ ⟨⟨⟨fp,Co,hfp⟩,Qc,hps⟩,oD⟩ rfl hlt;have hAV:=oD.blk hA1 (by omega) (by simp;omega);have hLV:=oD.blk hL1 (by omega) (by simp;omega);have hTV:=hTw.keep oD (by omega) (by omega) (by simp;omega) (by simp;omega);have hxn:x.val<T.gs.length:=x.isLt;have MI:=hP.le
  have hxi:(x.val:Int)<(T.gs.length:Int):=by omega
  have hx0:(0:Int)≤(x.val:Int):=by omega
  have Ck:=oD.size;have t0:=hAV.cell 0;simp only[List.getElem?_toArray,List.getElem?_cons_zero]at t0;obtain⟨JN,JO,JQ,JR⟩:=hLV.c4;have hc:=hTV.cells.1;have HS:=qd (fun(wX:World) (M:Mod [mb] V wX)=>show(fun(w':World)=>w'.cell? ⟨w.heap.size,0,none⟩=some (pQ tb)∧w'.cell? ⟨tb,0,none⟩=some (.slice (some ⟨gb,0,none⟩) T.gs.length T.gs.length)∧w'.cell? ⟨w.heap.size+1,0,none⟩=some (.pointer (some ⟨mb,mo,none⟩))∧w'.cell? ⟨w.heap.size+1,1,none⟩=some (.int .i64 c.p)∧w'.cell? ⟨w.heap.size+1,2,none⟩=some (.int .i64 c.v)∧w'.cell? ⟨w.heap.size+1,3,none⟩=some (.int .i64 c.u)) wX from⟨(M.cell_ (p:=⟨w.heap.size,0,none⟩) (by show w.heap.size<_;omega) (by simp;omega)).trans t0,(M.cell_ (p:=⟨tb,0,none⟩) (by show tb<_;omega) (by simp;omega)).trans hc,(M.cell_ (p:=⟨w.heap.size+1,0,none⟩) (by show w.heap.size+1<_;omega) (by simp;omega)).trans JN,(M.cell_ (p:=⟨w.heap.size+1,1,none⟩) (by show w.heap.size+1<_;omega) (by simp;omega)).trans JO,(M.cell_ (p:=⟨w.heap.size+1,2,none⟩) (by show w.heap.size+1<_;omega) (by simp;omega)).trans JQ,(M.cell_ (p:=⟨w.heap.size+1,3,none⟩) (by show w.heap.size+1<_;omega) (by simp;omega)).trans JR⟩)
  gi_wp2_with fail
  refine adL (fun a' w2=>∃vb,a'={tmps:= #[pQ tb,.agg #[.pointer (some ⟨mb,mo,none⟩),.int .i64 c.p,.int .i64 c.v,.int .i64 c.u],nU key,nU hash,pQ w.heap.size,.pointer (some ⟨w.heap.size+1,0,none⟩),.pointer (some ⟨w.heap.size+1+1,0,none⟩),.pointer (some ⟨w.heap.size+1+1+1,0,none⟩),.pointer (some ⟨w.heap.size+1+1+1+1,0,none⟩),pQ W.heap.size,nI x.val,pQ vb,undef,pQ tb,nU key,nU hash,.agg #[.pointer none,.int .i64 (-1)],.agg #[.pointer none,.int .i64 (-1)],.agg #[pQ tb,nU key,nU hash,.pointer none,.int .i64 (-1),.pointer none,.int .i64 (-1)],nU hash,.int .u64 ((hash:Int)/128),pQ tb,pQ tb,pQ tb,.slice (some ⟨gb,0,none⟩) T.gs.length T.gs.length,nI T.gs.length,.func (.func 185) #[] #[.pointer (some ⟨W1.heap.size+1,0,none⟩),pQ W1.heap.size],nI x.val,pQ tb,pQ tb,pQ tb,.slice (some ⟨gb,0,none⟩) T.gs.length T.gs.length,nI x.val,.pointer (some ⟨gb,x.val*25,none⟩),.agg #[.pointer (some ⟨mb,mo,none⟩),.int .i64 c.p,.int .i64 c.v,.int .i64 c.u],.agg #[.pointer (some ⟨gb,x.val*25,none⟩)],undef,undef,undef,undef,undef,undef,undef,undef,undef,undef,undef,undef,undef,undef,undef,undef,undef,undef,undef,undef,undef,undef,undef,undef],defers:=[]}∧aj w2 vb 196 #[.pointer (some ⟨gb,x.val*25,none⟩)]∧V.heap.size≤vb∧Met w2 mb mt gY eY mo (ji (eX a0 c pre.length) c) (ji (eX l0 c pre.length) c) m∧Mod [mb] V w2) ?_ ?_
  ·refine Av (fun(w':World)=>w'.cell? ⟨w.heap.size,0,none⟩=some (pQ tb)∧w'.cell? ⟨tb,0,none⟩=some (.slice (some ⟨gb,0,none⟩) T.gs.length T.gs.length)∧w'.cell? ⟨w.heap.size+1,0,none⟩=some (.pointer (some ⟨mb,mo,none⟩))∧w'.cell? ⟨w.heap.size+1,1,none⟩=some (.int .i64 c.p)∧w'.cell? ⟨w.heap.size+1,2,none⟩=some (.int .i64 c.v)∧w'.cell? ⟨w.heap.size+1,3,none⟩=some (.int .i64 c.u)) [] (by kernel_rfl) (by kernel_rfl) (by rintro⟨_,_,h⟩;exact h) ?_
   try (change cB _ _ _ _ _ _ _ _ _ (World.drew _))
   have hHeld:=(⟨t0,hc,JN,JO,JQ,JR⟩:_∧_∧_∧_∧_∧_);refine vT 0 rfl ?_;refine vW 1 rfl ?_;refine vW 2 rfl ?_;refine vT 3 rfl ?_;refine vW 4 rfl ?_;refine vW 5 rfl ?_;refine vT 6 rfl ?_;refine pairT (i:=7) (j:=8) (o:=⟨some 35,_,_,_,_,_⟩) (o':=⟨some 11,_,_,_,_,_⟩) rfl rfl (by kernel_rfl) (fun K hK=> ?_) (fun K hK=> ?_)
   ·go_simp;refine(wo ⟨gb,x.val*25,none⟩ mb mt gY eY mo _ _ m c _ (Qc.below (Below.refl _ _).drew)).mono ?_;rintro e w2 ⟨rfl,hM2,hm2⟩;simp only[bE];go_wp2_with fail;have M7:Mod [mb] V w2:=(Mod.drewN [mb] V 1).then hm2;refine hK.out _ _ (fun _=>HS.out _ M7) ?_;clear hK K
    try simp only[pt]
    refine nT 8 rfl fun K hK=> ?_;go_simp;have M8:Mod [mb] V (w2.alloc (.cells #[.pointer none] 196)):=M7.alloc _;have Cq:=aj.new w2 196 #[.pointer none];have Qd:=hM2.below ((Below.refl w2.heap.size w2).alloc (Nat.le_refl _) (.cells #[.pointer none] 196));have adN:=M7.size;obtain⟨w3,hw3⟩:∃w3,w3=w2.alloc (.cells #[.pointer none] 196):=⟨_,rfl⟩;rw[←hw3]at M8 Cq Qd⊢;clear hw3;refine hK.out _ _ (fun _=>HS.out _ M8) ?_;clear hK K
    try simp only[pt]
    refine nT 9 rfl fun K hK=> ?_;have n0:=Cq.cell 0;simp only[List.getElem?_toArray,List.getElem?_cons_zero]at n0;have nf:=Cq.frozen 0;go_simp;have M9:=M8.ak (b:=w2.heap.size) (.inr (by omega)) 0 (.pointer (some ⟨gb,x.val*25,none⟩));refine hK.out _ _ (fun _=>HS.out _ M9) ?_;clear hK K
    try simp only[pt]
    refine aU (by kernel_rfl) ?_ _;exact⟨w2.heap.size,rfl,Cq.ak 0 _,adN,⟨Qd.len,Qd.blk.far (p:=⟨w2.heap.size,0,none⟩) (by show mb≠w2.heap.size;omega) _⟩,M9⟩
   ·go_simp;have M8:Mod [mb] V (V.alloc (.cells #[.pointer none] 196)).drew:=((Mod.refl [mb] V).alloc _).then (Mod.drewN [mb] _ 1);have Cq:aj (V.alloc (.cells #[.pointer none] 196)).drew V.heap.size 196 #[.pointer none]:=(aj.new V _ _).drew;have Qd:=Qc.below (((Below.refl V.heap.size V).alloc (Nat.le_refl _) (.cells #[.pointer none] 196)).drew);obtain⟨w3,hw3⟩:∃w3,w3=(V.alloc (.cells #[.pointer none] 196)).drew:=⟨_,rfl⟩;rw[←hw3]at M8 Cq Qd⊢;clear hw3;refine hK.out _ _ (fun _=>HS.out _ M8) ?_;clear hK K
    try simp only[pt]
    refine nT 7 rfl fun K hK=> ?_;go_simp;refine(wo ⟨gb,x.val*25,none⟩ mb mt gY eY mo _ _ m c _ Qd).mono ?_;rintro e w2 ⟨rfl,hM2,hm2⟩;simp only[bE];go_wp2_with fail;have M7:Mod [mb] V w2:=M8.then hm2;replace Cq:=Cq.mod hm2 (by simp;omega);refine hK.out _ _ (fun _=>HS.out _ M7) ?_;clear hK K
    try simp only[pt]
    refine nT 9 rfl fun K hK=> ?_;have n0:=Cq.cell 0;simp only[List.getElem?_toArray,List.getElem?_cons_zero]at n0;have nf:=Cq.frozen 0;go_simp;have M9:=M7.ak (b:=V.heap.size) (.inr (Nat.le_refl _)) 0 (.pointer (some ⟨gb,x.val*25,none⟩));refine hK.out _ _ (fun _=>HS.out _ M9) ?_;clear hK K
    try simp only[pt]
    refine aU (by kernel_rfl) ?_ _;exact⟨V.heap.size,rfl,Cq.ak 0 _,Nat.le_refl _,⟨hM2.len,hM2.blk.far (p:=⟨V.heap.size,0,none⟩) (by show mb≠V.heap.size;omega) _⟩,M9⟩
  ·rintro a' w2 ⟨vb,rfl,Uj,hvb,hM2,hm2⟩;simp only[Array.mk.injEq];have hK2:aY w1.heap.size [W.heap.size,mb] w1 w2:=dS oD ((hm2.more (T:=[W.heap.size,mb]) (by simp)).wu Ck);have Xv:aY w1.heap.size [W.heap.size,mb] V w2:=(hm2.more (T:=[W.heap.size,mb]) (by simp)).wu Ck;have jV:=hTV.mod hm2 (by simp;omega) (by simp;omega);have hS2:=Co.mod hm2 (by simp;omega);have Xw:=hK2.blk hK1 (by omega) (by simp;omega);have Xx:=hK2.blk hH1 (by omega) (by simp;omega);have hR2:=hK2.blk sO (by omega) (by simp;omega);have Xy:gG w2:=hK2.tz hgs (by simp;omega) abI;have Xz:KeepsFrom w1.heap.size V w2:=jd hm2 (by simp;omega);have ae9:w1.heap.size≤vb:=Nat.le_trans Ck hvb;cases hfr:fO T.gs (vals pre)
   case' some y=>
    have hfr2:fO T.gs (vals (pre++[x]))=some y:=by rw[yC,uF,hfr];rfl
    rw[hfr]at hS2 hfp;obtain⟨wq,hwq⟩:∃wq,wq=w2:=⟨_,rfl⟩;obtain⟨vX,IZ⟩:∃vX,vX=fp:=⟨_,rfl⟩;rw[←hwq]at hS2 Uj Xw Xx hR2 jV Xy Xz hK2 Xv hM2⊢;rw[←IZ]at hS2 hfp;clear hwq IZ hm2;have Cr:=hS2;have JU:iF gb (fO T.gs (vals (pre++[x]))) vX:=hfr2▸hfp;have JV:=Uj;have hKq:=Xw;have MJ:=hR2;have Uk:=hM2;have Ct:=hK2;have XA:=Xv;have XB:=Xz;have hHq:=Xx;have ZE:=jV;have abJ:=Xy
    have hsl:¬bT (some y)<0:=by simp only[bT];omega
    generalize hsv:bT (some y)=sv at*
    have ZF:bT (fO T.gs (vals (pre++[x])))=sv:=by rw[hfr2];exact hsv
    unfold dZ at Cr;obtain⟨p0,p1,p2,p3,p4,p5,p6⟩:=Cr.c7
   case' none=>
    rw[hfr]at hS2;simp only[dZ,bT]at hS2;obtain⟨p0,p1,p2,p3,p4,p5,p6⟩:=hS2.c7;have v0:=Uj.cell 0;simp only[List.getElem?_toArray,List.getElem?_cons_zero]at v0;obtain⟨q0,q1,q2,q3,q4,q5,q6⟩:=hS2.f7;have MK:=qd (Xp gb _ _ _ (x.val*25) _ w2.drew ((jV.below (Below.refl _ _).drew).group x.val hxn) (fun i hi=>Xy i hi));obtain⟨fv,ML⟩:∃fv,fv=tN (kX (T.gs.getD x.val [])):=⟨_,rfl⟩;rw[←ML]at MK;have Hfv:=qd ML;clear ML
    gi_wp2_with fail
    refine Av (fun(w':World)=>w'.cell? ⟨vb,0,none⟩=some (.pointer (some ⟨gb,x.val*25,none⟩))) [5] (by kernel_rfl) (by kernel_rfl) (by rintro⟨_,_,h⟩;exact h) ?_
    try (change cB _ _ _ _ _ _ _ _ _ (World.drew _))
    have hHeld:=v0;refine vT 0 rfl ?_;refine vT 1 rfl ?_;refine nT 2 rfl fun K hK=> ?_;go_simp;refine(MK.out).mono ?_;rintro e w3 ⟨rfl,hb3⟩;replace hb3:Below w2.heap.size w2 w3:=bL hb3 (Below.refl _ _).drew;go_wp2_with fail;have hHeld:=show(fun(w':World)=>w'.cell? ⟨vb,0,none⟩=some (.pointer (some ⟨gb,x.val*25,none⟩))) _ from aA hb3 v0;refine kO hK ?_;clear hK K;refine vW 3 rfl ?_;refine vW 4 rfl ?_;refine nT 5 rfl fun K hK=> ?_;have p5n:=aA hb3 p5;have p6n:=aA hb3 p6;have q5n:=(hS2.below hb3 hS2.lt).frozen 5;have q6n:=(hS2.below hb3 hS2.lt).frozen 6;go_simp;refine kO hK ?_;clear hK K;refine aU (by kernel_rfl) ?_ _
    have hfr2:fO T.gs (vals (pre++[x]))=(kX (T.gs.getD x.val [])).map fun s=>(x.val,s):=by rw[yC,uF,hfr];rfl
    have abK:bT (fO T.gs (vals (pre++[x])))=tN (kX (T.gs.getD x.val [])):=by rw[hfr2];cases kX (T.gs.getD x.val [])<;>rfl
    obtain⟨wq,hwq⟩:∃wq,wq=(w3.setCell ⟨W.heap.size,5,none⟩ (.pointer (some ⟨gb,x.val*25,none⟩))).setCell ⟨W.heap.size,6,none⟩ (.int .i64 fv):=⟨_,rfl⟩;rw[←hwq];have Mq:Mod [W.heap.size] w2 wq:=hwq▸(((Mod.of_below hb3 [W.heap.size]).ak (.inl (by simp)) _ _).ak (.inl (by simp)) _ _)
    have Rz:aj wq W.heap.size 207 (dZ tb key hash none (-1) (some ⟨gb,x.val*25,none⟩) fv):=by
     have:=((hS2.below hb3 hS2.lt).ak 5 (.pointer (some ⟨gb,x.val*25,none⟩))).ak 6 (.int .i64 fv);rw[hwq];simpa only[List.setIfInBounds_toArray,List.set_cons_zero,List.set_cons_succ,dZ]using this
    obtain⟨vX,IZ⟩:∃vX:Option Addr,vX=some ⟨gb,x.val*25,none⟩:=⟨_,rfl⟩;rw[←IZ]at Rz
    have JU:iF gb (fO T.gs (vals (pre++[x]))) vX:=fun a b hab=>by
     rw[hfr2]at hab
     cases hg2:kX (T.gs.getD x.val [])with
     |none=>
      rw[hg2]at hab;cases hab
     |some s2=>
      rw[hg2]at hab;cases hab;exact IZ
    clear hwq IZ;have JV:=Uj.mod Mq (by simp;omega);have hKq:=Xw.mod Mq (by simp;omega);have hHq:=Xx.mod Mq (by simp;omega);have MJ:=hR2.mod Mq (by simp;omega);have Uk:=hM2.mod Mq (by simp;omega);have ZE:=jV.mod Mq (by simp;omega) (by simp;omega);have abL:=hK2.size;have Ct:=dS hK2 (nk (Mq.wu (Nat.le_refl _)) abL (T:=[W.heap.size,mb]) (by simp;omega));have XA:=dS Xv (nk (Mq.wu (Nat.le_refl _)) abL (T:=[W.heap.size,mb]) (by simp;omega));have XB:=Xz.trans (jd Mq (by simp;omega));have abJ:gG wq:=Ct.tz hgs (by simp;omega) abI;obtain⟨sv,XC⟩:∃sv,sv=fv:=⟨_,rfl⟩;rw[←XC]at Rz
    have ZF:bT (fO T.gs (vals (pre++[x])))=sv:=by rw[abK,XC];exact Hfv.out.symm
    clear XC abK;have Cr:=Rz;unfold dZ at Cr;clear Rz hS2 hm2 Mq v0 Uj;obtain⟨pz0,pz1,pz2,pz3,pz4,pz5,pz6⟩:=Cr.c7
   all_goals
    have v0:=JV.cell 0;simp only[List.getElem?_toArray,List.getElem?_cons_zero]at v0;have kk0:=hKq.cell 0;simp only[List.getElem?_toArray,List.getElem?_cons_zero]at kk0;have hh0:=hHq.cell 0;simp only[List.getElem?_toArray,List.getElem?_cons_zero]at hh0;have JH:=qd (tO (q:=7) (Xo gb 200 (dB (T.gs.take x.val)) (dB (T.gs.drop (x.val+1))) (x.val*25) (T.gs.getD x.val []) wq (ZE.group x.val hxn) key hash h64 abJ))
    cases hf:ig (T.gs.getD x.val []) key hash with
    |some s=>
     rw[hf]at JH;simp only[tN]at JH
     have hs0:(0:Int)≤(s:Int):=by omega
     gi_wp2_with fail
     refine⟨trivial,(CallsIn.inRound lp JH.out).mono ?_⟩;rintro e w5 ⟨rfl,hb5⟩;have yx:=dS Ct (aY.of_below (n₀:=w1.heap.size) (S:=[W.heap.size,mb]) (hb5.mono (by have:=Ct.size;omega)));have RA:=dS XA (aY.of_below (n₀:=w1.heap.size) (S:=[W.heap.size,mb]) (hb5.mono (by have:=Ct.size;omega)));have vJ:=XB.trans (jd (Mod.of_below hb5 []) (by simp));have hS5:=Cr.below hb5 Cr.lt;have aB:=MJ.below hb5 MJ.lt;have Qe:=JV.below hb5 JV.lt;have Qf:=Uk.below hb5;have oG:=ZE.below hb5;obtain⟨s0,s1,s2,s3,s4,s5,s6⟩:=hS5.c7;obtain⟨sf0,sf1,sf2,sf3,sf4,sf5,sf6⟩:=hS5.f7;obtain⟨r0,r1,r2,r3,r4,r5,r6⟩:=aB.c7;obtain⟨rf0,rf1,rf2,rf3,rf4,rf5,rf6⟩:=aB.f7;have Qg:=Qe.cell 0;simp only[List.getElem?_toArray,List.getElem?_cons_zero]at Qg;clear v0 kk0 hh0 hS5 Qe hb5 Cr JV MJ Uk;obtain⟨w6,lY⟩:∃w6,w6=((((((((w5.setCell ⟨W.heap.size,3,none⟩ (.pointer (some ⟨gb,x.val*25,none⟩))).setCell ⟨W.heap.size,4,none⟩ (nI s)).setCell ⟨w.heap.size+1+1+1+1,0,none⟩ (pQ tb)).setCell ⟨w.heap.size+1+1+1+1,1,none⟩ (nU key)).setCell ⟨w.heap.size+1+1+1+1,2,none⟩ (nU hash)).setCell ⟨w.heap.size+1+1+1+1,3,none⟩ (.pointer (some ⟨gb,x.val*25,none⟩))).setCell ⟨w.heap.size+1+1+1+1,4,none⟩ (nI s)).setCell ⟨w.heap.size+1+1+1+1,5,none⟩ (.pointer vX)).setCell ⟨w.heap.size+1+1+1+1,6,none⟩ (.int .i64 sv):=⟨_,rfl⟩
     have M6:Mod [W.heap.size,w.heap.size+1+1+1+1] w5 w6:=lY▸((((((((((Mod.refl [W.heap.size,w.heap.size+1+1+1+1] w5).ak (.inl (by simp)) _ _).ak (.inl (by simp)) _ _).ak (.inl (by simp)) _ _).ak (.inl (by simp)) _ _).ak (.inl (by simp)) _ _).ak (.inl (by simp)) _ _).ak (.inl (by simp)) _ _).ak (.inl (by simp)) _ _).ak (.inl (by simp)) _ _)
     have B6:aj w6 (w.heap.size+1+1+1+1) 207 (dZ tb key hash (some ⟨gb,x.val*25,none⟩) (s:Int) vX sv):=by
      have:=(((((((((aB).far (p:=⟨W.heap.size,3,none⟩) (by show w.heap.size+1+1+1+1≠W.heap.size;omega) (.pointer (some ⟨gb,x.val*25,none⟩))).far (p:=⟨W.heap.size,4,none⟩) (by show w.heap.size+1+1+1+1≠W.heap.size;omega) (nI s)).ak 0 (pQ tb)).ak 1 (nU key)).ak 2 (nU hash)).ak 3 (.pointer (some ⟨gb,x.val*25,none⟩))).ak 4 (nI s)).ak 5 (.pointer vX)).ak 6 (.int .i64 sv);rw[lY];simpa only[List.setIfInBounds_toArray,List.set_cons_zero,List.set_cons_succ,dZ]using this
     have T6:=Qf.mod M6 (by simp;omega);have K6:aY w.heap.size [mb] w w6:=dS (dS (aY.of_below (zL.trans (hb1.mono zL.size))) (nk yx (by omega) (by simp;omega))) (nk (M6.wu (Nat.le_refl _)) (by have:=yx.size;have:=zL.size;omega) (by simp;omega));have F6:KeepsFrom w1.heap.size V w6:=vJ.trans (jd M6 (by simp;omega));have HE:=qd (And.intro B6 (And.intro T6 (And.intro K6 F6)));clear M6 B6 T6 K6 F6;have Ul:=qd lY;clear lY
     gi_wp2
     rw[←Ul.out];exact⟨HE.out.2.2.2,⟨rfl,pre,x,some ⟨gb,x.val*25,none⟩,vX,rfl,hps,.inl (by rw[hf];simp),by rw[ZF,wB,hf];exact HE.out.1,fun a b hab=>by rw[wB,hf]at hab;cases hab;rfl,JU,by rw[List.length_append];exact HE.out.2.1⟩,HE.out.2.2.1⟩
    |none=>
     rw[hf]at JH;simp only[tN]at JH
     gi_wp2_with fail
     refine⟨trivial,(CallsIn.inRound lp JH.out).mono ?_⟩;rintro e w4 ⟨rfl,hb4⟩;have hK4:=dS Ct (aY.of_below (n₀:=w1.heap.size) (S:=[W.heap.size,mb]) (hb4.mono (by have:=Ct.size;omega)));have abM:=dS XA (aY.of_below (n₀:=w1.heap.size) (S:=[W.heap.size,mb]) (hb4.mono (by have:=Ct.size;omega)));have Cm:=XB.trans (jd (Mod.of_below hb4 []) (by simp));have Bw:=Cr.below hb4 Cr.lt;have nS:=MJ.below hb4 MJ.lt;have Qh:=JV.below hb4 JV.lt;have GR:=Uk.below hb4;have Qi:=ZE.below hb4;have Qg:=Qh.cell 0;simp only[List.getElem?_toArray,List.getElem?_cons_zero]at Qg;have GU:=qd (tO (q:=7) (Xq gb _ _ _ (x.val*25) _ w4 (Qi.group x.val hxn)))
     cases ho':dL (T.gs.getD x.val [])with
     |true=>
      rw[ho']at GU;have ho:dL (T.gs.getD x.val [])=true:=ho'
      gi_wp2_with fail
      refine⟨trivial,(CallsIn.inRound lp GU.out).mono ?_⟩;rintro e w5 ⟨rfl,hb5⟩;have yx:=dS hK4 (aY.of_below (n₀:=w1.heap.size) (S:=[W.heap.size,mb]) (hb5.mono (by have:=hK4.size;omega)));have RA:=dS abM (aY.of_below (n₀:=w1.heap.size) (S:=[W.heap.size,mb]) (hb5.mono (by have:=hK4.size;omega)));have vJ:=Cm.trans (jd (Mod.of_below hb5 []) (by simp));have hS5:=Bw.below hb5 Bw.lt;have aB:=nS.below hb5 nS.lt;have Qe:=Qh.below hb5 Qh.lt;have Qf:=GR.below hb5;have oG:=Qi.below hb5;obtain⟨s0,s1,s2,s3,s4,s5,s6⟩:=hS5.c7;obtain⟨sf0,sf1,sf2,sf3,sf4,sf5,sf6⟩:=hS5.f7;obtain⟨r0,r1,r2,r3,r4,r5,r6⟩:=aB.c7;obtain⟨rf0,rf1,rf2,rf3,rf4,rf5,rf6⟩:=aB.f7;have Qg:=Qe.cell 0;simp only[List.getElem?_toArray,List.getElem?_cons_zero]at Qg;clear v0 kk0 hh0 Qg hS5 Qe hb5 Cr JV MJ Uk Bw nS Qh GR;obtain⟨w6,lY⟩:∃w6,w6=((((((w5.setCell ⟨w.heap.size+1+1+1+1,0,none⟩ (pQ tb)).setCell ⟨w.heap.size+1+1+1+1,1,none⟩ (nU key)).setCell ⟨w.heap.size+1+1+1+1,2,none⟩ (nU hash)).setCell ⟨w.heap.size+1+1+1+1,3,none⟩ (.pointer none)).setCell ⟨w.heap.size+1+1+1+1,4,none⟩ (.int .i64 (-1))).setCell ⟨w.heap.size+1+1+1+1,5,none⟩ (.pointer vX)).setCell ⟨w.heap.size+1+1+1+1,6,none⟩ (.int .i64 sv):=⟨_,rfl⟩;have M6:Mod [W.heap.size,w.heap.size+1+1+1+1] w5 w6:=lY▸((((((((Mod.refl [W.heap.size,w.heap.size+1+1+1+1] w5).ak (.inl (by simp)) _ _).ak (.inl (by simp)) _ _).ak (.inl (by simp)) _ _).ak (.inl (by simp)) _ _).ak (.inl (by simp)) _ _).ak (.inl (by simp)) _ _).ak (.inl (by simp)) _ _)
      have B6:aj w6 (w.heap.size+1+1+1+1) 207 (dZ tb key hash none (-1) vX sv):=by
       have:=(((((((aB).ak 0 (pQ tb)).ak 1 (nU key)).ak 2 (nU hash)).ak 3 (.pointer none)).ak 4 (.int .i64 (-1))).ak 5 (.pointer vX)).ak 6 (.int .i64 sv);rw[lY];simpa only[List.setIfInBounds_toArray,List.set_cons_zero,List.set_cons_succ,dZ]using this
      have T6:=Qf.mod M6 (by simp;omega);have K6:aY w.heap.size [mb] w w6:=dS (dS (aY.of_below (zL.trans (hb1.mono zL.size))) (nk yx (by omega) (by simp;omega))) (nk (M6.wu (Nat.le_refl _)) (by have:=yx.size;have:=zL.size;omega) (by simp;omega));have F6:KeepsFrom w1.heap.size V w6:=vJ.trans (jd M6 (by simp;omega));have HE:=qd (And.intro B6 (And.intro T6 (And.intro K6 F6)));clear M6 B6 T6 K6 F6;have Ul:=qd lY;clear lY
      gi_wp2
      rw[←Ul.out];exact⟨HE.out.2.2.2,⟨rfl,pre,x,none,vX,rfl,hps,.inr ho,by rw[ZF,wB,hf];exact HE.out.1,(fun a b hab=>by rw[wB,hf]at hab;cases hab),JU,by rw[List.length_append];exact HE.out.2.1⟩,HE.out.2.2.1⟩
     |false=>
      rw[ho']at GU
      gi_wp2_with fail
      refine⟨trivial,(CallsIn.inRound lp GU.out).mono ?_⟩;rintro e w5 ⟨rfl,hb5⟩;have yx:=dS hK4 (aY.of_below (n₀:=w1.heap.size) (S:=[W.heap.size,mb]) (hb5.mono (by have:=hK4.size;omega)));have RA:=dS abM (aY.of_below (n₀:=w1.heap.size) (S:=[W.heap.size,mb]) (hb5.mono (by have:=hK4.size;omega)));have vJ:=Cm.trans (jd (Mod.of_below hb5 []) (by simp));have hS5:=Bw.below hb5 Bw.lt;have aB:=nS.below hb5 nS.lt;have Qe:=Qh.below hb5 Qh.lt;have Qf:=GR.below hb5;have oG:=Qi.below hb5;have HPs:=qd (show∀y∈pre++[x],Passed T.gs key hash y.val from fun y hy=>(List.mem_append.1 hy).elim (hps y) (fun e=>by simp at e;subst e;exact⟨hf,ho'⟩));have HL5:=qd (show Met w5 mb mt gY eY mo (eX a0 c (pre++[x]).length) (eX l0 c (pre++[x]).length) m from by rw[List.length_append];exact Qf);have MN:=qd (show∃fp,aj w5 W.heap.size 207 (dZ tb key hash none (-1) fp (bT (fO T.gs (vals (pre++[x])))))∧iF gb (fO T.gs (vals (pre++[x]))) fp from⟨vX,by rw[ZF];exact hS5,JU⟩);have HE:=qd (And.intro vJ (And.intro RA yx));clear hps hf ho' Qf hS5 vJ RA yx
      gi_wp2
      exact⟨HE.out.1,HE.out.2.1,⟨MN.out,HL5.out,HPs.out⟩,HE.out.2.2⟩
 case done=>
  rintro D ys V hD hys ⟨⟨⟨fp,Co,hfp⟩,Qc,hps⟩,oD⟩ qF
  have hse:aJ T.gs key hash=(none,fO T.gs (vals ys),ys.length):=by
   have:=Xt (gs:=T.gs) (key:=key) (hash:=hash) (pre:=vals ys) hys (fun i hi=>by
    obtain⟨y,hy,rfl⟩:=List.mem_map.1 hi
    exact hps y hy)
   rw[this];simp[vals]
  have sP:=oD.blk sO (by omega) (by simp;omega);obtain⟨sv,XD⟩:∃sv,bT (fO T.gs (vals ys))=sv:=⟨_,rfl⟩;rw[XD]at Co;unfold dZ at Co;have s0:=Co.cell 0;have s1:=Co.cell 1;have s2:=Co.cell 2;have s3:=Co.cell 3;have s4:=Co.cell 4;have s5:=Co.cell 5;have s6:=Co.cell 6;have r0:=sP.cell 0;have r1:=sP.cell 1;have r2:=sP.cell 2;have r3:=sP.cell 3;have r4:=sP.cell 4;have r5:=sP.cell 5;have r6:=sP.cell 6;simp only[gl]at s0 s1 s2 s3 s4 s5 s6 r0 r1 r2 r3 r4 r5 r6;obtain⟨f0,f1,f2,f3,f4,f5,f6⟩:=sP.f7;obtain⟨w6,lY⟩:∃w6,w6=((((((V.setCell ⟨w.heap.size+1+1+1+1,0,none⟩ (pQ tb)).setCell ⟨w.heap.size+1+1+1+1,1,none⟩ (nU key)).setCell ⟨w.heap.size+1+1+1+1,2,none⟩ (nU hash)).setCell ⟨w.heap.size+1+1+1+1,3,none⟩ (.pointer none)).setCell ⟨w.heap.size+1+1+1+1,4,none⟩ (.int .i64 (-1))).setCell ⟨w.heap.size+1+1+1+1,5,none⟩ (.pointer fp)).setCell ⟨w.heap.size+1+1+1+1,6,none⟩ (.int .i64 sv):=⟨_,rfl⟩;have M6:Mod [w.heap.size+1+1+1+1] V w6:=lY▸((((((((Mod.refl [w.heap.size+1+1+1+1] V).ak (.inl (by simp)) _ _).ak (.inl (by simp)) _ _).ak (.inl (by simp)) _ _).ak (.inl (by simp)) _ _).ak (.inl (by simp)) _ _).ak (.inl (by simp)) _ _).ak (.inl (by simp)) _ _)
  have O6:KeepsOthers V w6:=lY▸((((((((KeepsOthers.refl V).trans (KeepsOthers.setCell _ ⟨w.heap.size+1+1+1+1,0,none⟩ (pQ tb))).trans (KeepsOthers.setCell _ ⟨w.heap.size+1+1+1+1,1,none⟩ (nU key))).trans (KeepsOthers.setCell _ ⟨w.heap.size+1+1+1+1,2,none⟩ (nU hash))).trans (KeepsOthers.setCell _ ⟨w.heap.size+1+1+1+1,3,none⟩ (.pointer none))).trans (KeepsOthers.setCell _ ⟨w.heap.size+1+1+1+1,4,none⟩ (.int .i64 (-1)))).trans (KeepsOthers.setCell _ ⟨w.heap.size+1+1+1+1,5,none⟩ (.pointer fp))).trans (KeepsOthers.setCell _ ⟨w.heap.size+1+1+1+1,6,none⟩ (.int .i64 sv)))
  have B6:aj w6 (w.heap.size+1+1+1+1) 207 (dZ tb key hash none (-1) fp sv):=by
   have:=(((((((sP).ak 0 (pQ tb)).ak 1 (nU key)).ak 2 (nU hash)).ak 3 (.pointer none)).ak 4 (.int .i64 (-1))).ak 5 (.pointer fp)).ak 6 (.int .i64 sv);rw[lY];simpa only[List.setIfInBounds_toArray,List.set_cons_zero,List.set_cons_succ,dZ]using this
  have RB:=O6.same D _ qF rfl;have xq:=zK B6 (grownBy_putObj' w6 D (.deferred none)) (fun r e=>by cases e;exact⟨_,RB,rfl⟩);have ZG:=DU (Qc.mod M6 (by simp;omega)) (grownBy_putObj' w6 D (.deferred none)) (fun r e=>by cases e;exact⟨_,RB,rfl⟩);have Qa:Mod [mb] w (w6.putObj D (.deferred none)):=(dS (dS (dS (aY.of_below (zL.trans (hb1.mono zL.size))) (nk oD (by omega) (by simp;omega))) (nk (M6.wu (Nat.le_refl _)) (by have:=oD.size;omega) (by simp;omega))) (wP (w:=w) (Nat.le_refl _) w6 D _ _ (by omega) RB rfl rfl)).mod;have HE:=qd (And.intro ZG Qa);have Ul:=qd lY;have ZH:=qd hse;have Hsv:=qd XD;clear lY M6 O6 B6 ZG Qa hse XD;go_wp2;rw[←Ul.out];refine wQ ⟨by simp,.inl ⟨_,_,rfl,run_takeDeferred RB, ?_⟩⟩;have d0:=xq.cell 0;have d1:=xq.cell 1;have d2:=xq.cell 2;have d3:=xq.cell 3;have d4:=xq.cell 4;have d5:=xq.cell 5;have d6:=xq.cell 6;simp only[dZ,List.getElem?_toArray,List.getElem?_cons_zero,List.getElem?_cons_succ]at d0 d1 d2 d3 d4 d5 d6;refine⟨.agg (dZ tb key hash none (-1) fp sv), ?_,none,fp, ?_⟩
  ·simp[results,Tryz.f108,go_sem,d0,d1,d2,d3,d4,d5,d6,dZ]
  ·rw[ZH.out];exact⟨by rw[Hsv.out];rfl,(fun i s hab=>by cases hab),hfp,HE.out.1,HE.out.2⟩
 case stop=>
  rintro D cd pre V hD ⟨j,hj,hj2⟩ ⟨⟨rfl,pre',x,ap,fp,he,hps,hend,sP,hap,hfp,Qc⟩,oD⟩ qF;subst he;have hse:=Ui hj2 hps hend;have hc0:=sP.cell 0;have hc1:=sP.cell 1;have hc2:=sP.cell 2;have hc3:=sP.cell 3;have hc4:=sP.cell 4;have ZB:=sP.cell 5;have hc6:=sP.cell 6;have xq:aj (V.putObj D (.deferred none)) (w.heap.size+1+1+1+1) 207 _:=zK sP (grownBy_putObj' V D (.deferred none)) (fun r e=>by cases e;exact⟨_,qF,rfl⟩);have ZG:=DU Qc (grownBy_putObj' V D (.deferred none)) (fun r e=>by cases e;exact⟨_,qF,rfl⟩)
  gi_wp2
  refine wQ ⟨by simp,.inl ⟨_,_,rfl,run_takeDeferred qF, ?_⟩⟩;have d0:=xq.cell 0;have d1:=xq.cell 1;have d2:=xq.cell 2;have d3:=xq.cell 3;have d4:=xq.cell 4;have d5:=xq.cell 5;have d6:=xq.cell 6;simp only[dZ,List.getElem?_toArray,List.getElem?_cons_zero,List.getElem?_cons_succ]at d0 d1 d2 d3 d4 d5 d6;refine⟨.agg (dZ tb key hash ap (bT (wB T.gs key hash x.val)) fp (bT (fO T.gs (vals (pre'++[x]))))), ?_,ap,fp, ?_⟩
  ·simp[results,Tryz.f108,go_sem,d0,d1,d2,d3,d4,d5,d6,dZ]
  ·rw[hse];exact⟨rfl,hap,hfp,ZG,(dS oD (wP (w:=w) (Nat.le_refl _) V D _ _ (by have:=zL.size;omega) qF rfl rfl)).mod⟩
end Go.Proofs.YtkkibocdfijnhaaGreatDoor

/-! Where a seek ends: the places are of the table. No program in sight. -/
namespace Go.Proofs.YtkkibocdfijnhaaGreatDoor.bV
set_option maxRecDepth 100000
set_option maxHeartbeats 4000000
open Go.RowKit Go.Shelf bV Go
theorem RD {G:kP}{s:Nat}(h:kX G=some s):s<G.length∧(G.getD s .empty).isFull=false:=by
 obtain⟨hk,hp,_⟩:=List.findIdx?_eq_some_iff_getElem.1 h;refine⟨hk, ?_⟩;rw[getD_in hk];simpa using hp
def Cu (gs:Tab)(x:Option (Nat×Nat)):Prop:=∀i s,x=some (i,s)→i<gs.length∧s<(gs.getD i []).length∧(aH gs i s).isFull=false
theorem Um {gs:Tab}{fr:Option (Nat×Nat)}(h:Cu gs fr){i:Nat}(hi:i<gs.length):Cu gs (iK fr i (gs.getD i [])):=by
 intro a b hab
 cases fr with
 |some x=>exact h a b hab
 |none=>
  unfold iK at hab;dsimp only at hab
  cases hg:kX (gs.getD i [])with
  |none=>rw[hg]at hab;cases hab
  |some s=>
   rw[hg]at hab;cases hab;exact⟨hi,RD hg⟩
theorem JW (gs:Tab)(key hash:Nat):∀(l:List Nat) (fr:Option (Nat×Nat)),(∀i∈l,i<gs.length)→Cu gs fr→Cu gs (jS gs key hash l fr).2.1
 | [],_,_,h=>h
 |i::is,fr,hl,h=>by
  have h1:=Um h (hl i (by simp));have ih:=JW gs key hash is _ (fun x hx=>hl x (by simp[hx])) h1;rw[jS]
  cases ig (gs.getD i []) key hash with
  |some s=>exact h1
  |none=>
   cases dL (gs.getD i [])with
   |true=>exact h1
   |false=>exact ih
theorem walk_lt {h n i:Nat}(hn:0<n)(hi:i∈walk h n):i<n:=by
 obtain⟨j,_,rfl⟩:=List.mem_map.1 hi;exact Nat.mod_lt _ hn
theorem y8 (gs:Tab)(hn:0<gs.length)(key hash:Nat):Cu gs (aJ gs key hash).2.1:=by
 rw[yB];exact JW gs key hash _ none (fun i hi=>walk_lt hn hi) (fun _ _ h=>by cases h)
theorem uS {gs:Tab}{key hash i s:Nat}(h:(aJ gs key hash).1=some (i,s)):∃e,aH gs i s= .full e∧e.key=key∧i<gs.length∧s<(gs.getD i []).length:=by
 obtain⟨e,h1,h2,_⟩:=Gn h;have:=kg (gs:=gs) (i:=i) (s:=s) (by rw[h1];simp);exact⟨e,h1,h2,this⟩
end Go.Proofs.YtkkibocdfijnhaaGreatDoor.bV
