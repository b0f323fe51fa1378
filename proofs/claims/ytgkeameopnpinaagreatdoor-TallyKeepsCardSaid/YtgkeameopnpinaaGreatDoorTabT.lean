/- A table's Seek by its contract. -/
import Derived.Test.YtgkeameopnpinaaGreatDoorTabS
import Derived.Test.YtgkeameopnpinaaGreatDoorCoO
import Derived.Test.YtgkeameopnpinaaGreatDoorLaneP
namespace Go.Proofs.YtgkeameopnpinaaGreatDoor
set_option maxRecDepth 100000
set_option maxHeartbeats 4000000
open Go.RowKit Go.Shelf bY Go
variable {S : List Nat} {X Y w w' : World} {row : Option Nat} {t : TypeId} {n : Nat}
attribute [local go_sem] Oper.semAt_some
def eB (a c:aZ):Nat→aZ
 |0=>a
 |k+1=>iU (eB a c k) c
theorem Mod.cell_ (h:Mod S w w'){p:Addr}(hp:p.block<w.heap.size)(hs:p.block∉S):w'.cell? p=w.cell? p:=World.cell?_of_block (w:=w) (h.block p.block hp hs)
theorem iM {B:Nat}(h:Mod S w w')(hS:∀k,k∈S→k<B):KeepsFrom B w w':=⟨h.size,fun k o hB hk _=>(h.block k (Array.getElem?_eq_some_iff.1 hk).1 (fun hh=>absurd (hS k hh) (by omega))).trans hk⟩
theorem lZ {n₀ n₁:Nat}{T:List Nat}{A B:World}(h:aW n₀ S A B)(hn:n₁≤n₀)(hS:∀k,k<n₁→k∈S→k∈T):aW n₁ T A B:=⟨h.os,h.tape,h.output,h.size,fun k hk hT=>h.block k (by omega) (fun hh=>hT (hS k hk hh))⟩
theorem yO {g:Nat}{cs:Array Value}(h:aj X g t cs)(hg:X.grownBy Y row)(hr:∀r,row=some r→∃o:Obj,X.heap[r]?=some o∧o.isCells=false):aj Y g t cs:=by
 refine(hg.block g h.lt (fun e=> ?_)).trans h;obtain⟨o,ho,hc⟩:=hr g e.symm;rw[show X.heap[g]?=_ from h]at ho;cases ho;cases hc
theorem Cz {mb:Nat}{pre post:List Value}{mo:Nat}{a l:aZ}{m:Int}(h:Met X mb t pre post mo a l m)(hg:X.grownBy Y row)(hr:∀r,row=some r→∃o:Obj,X.heap[r]?=some o∧o.isCells=false):Met Y mb t pre post mo a l m:=⟨h.len,yO h.blk hg hr⟩
def bK (x:Option (Nat×Nat)):Int:=match x with
 |some y=>(y.2:Int)
 |none=> -1
def dP (tb key hash:Nat)(ap:Option Addr)(as_:Int)(fp:Option Addr)(fs:Int):Array Value:= #[pQ tb,nU key,nU hash,.pointer ap,.int .i64 as_,.pointer fp,.int .i64 fs]
def gW (gb:Nat)(x:Option (Nat×Nat))(p:Option Addr):Prop:=∀i s,x=some (i,s)→p=some ⟨gb,i*25,none⟩
def vals {n:Nat}(pre:List (Fin n)):List Nat:=pre.map Fin.val
theorem wV (pre:List (Fin n))(x:Fin n):vals (pre++[x])=vals pre++[x.val]:=by simp[vals]
def uQ (gs:Tab)(key hash i:Nat):Option (Nat×Nat):=(gI (gs.getD i []) key hash).map fun s=>(i,s)
theorem Sv {gs:Tab}{key hash:Nat}{pre:List (Fin n)}{x:Fin n}{j:Nat}(hj:vals (pre++[x])=(walk (hash/128) gs.length).take j)(h:∀y∈pre,Passed gs key hash y.val)(he:gI (gs.getD x.val []) key hash≠none∨dF (gs.getD x.val [])=true):aI gs key hash=(uQ gs key hash x.val,eY gs (vals (pre++[x])),(pre++[x]).length):=by
 have hw:vals pre++x.val::(walk (hash/128) gs.length).drop j=walk (hash/128) gs.length:=by
  have:=List.take_append_drop j (walk (hash/128) gs.length);rw[←hj,wV,List.append_assoc]at this;exact this
 have hp:∀i∈vals pre,Passed gs key hash i:=fun i hi=>by
  obtain⟨y,hy,rfl⟩:=List.mem_map.1 hi;exact h y hy
 have hlen:(vals pre++[x.val]).length=(pre++[x]).length:=by simp[vals]
 unfold uQ;rw[wV,←hlen]
 cases hf:gI (gs.getD x.val []) key hash with
 |some s=>exact VU hw hp hf
 |none=>
  rcases he with he|he
  ·exact absurd hf he
  ·exact Sr hw hp hf he
theorem qQ (tb gb key hash:Nat)(T:aB)(mb:Nat)(mt:TypeId)(gF eD:List Value)(mo:Nat)(a0 l0:aZ)(m:Int)(c:aZ)(w:World)(h:TabAt w tb gb T)(hP:Pw T.gs.length)(h64:hash<18446744073709551616)(hM:Met w mb mt gF eD mo a0 l0 m)(hmt:mb≠tb)(fZ:mb≠gb)(hT:fG w)(hz:14 ≠mb):
  Calls Tryz.prog 143 #[bP tb,aG (some ⟨mb,mo,none⟩) c,nU key,nU hash] w fun e w'=>∃ap fp,e= .returned (bH tb key hash ap (bK (aI T.gs key hash).1) fp (bK (aI T.gs key hash).2.1))∧
   (∀i s,(aI T.gs key hash).1=some (i,s)→ap=some ⟨gb,i*25,none⟩)∧(∀i s,(aI T.gs key hash).2.1=some (i,s)→fp=some ⟨gb,i*25,none⟩)∧
   Met w' mb mt gF eD mo (eB a0 c (aI T.gs key hash).2.2) (eB l0 c (aI T.gs key hash).2.2) m∧Mod [mb] w w':=by
 obtain⟨W,hW,hB,hA,hL,hK,hH,hR⟩:=qX5 w 168 #[pQ tb] 163 #[.pointer (some ⟨mb,mo,none⟩),.int .i64 c.p,.int .i64 c.v,.int .i64 c.u] 23 #[nU key] 23 #[nU hash] 240 #[.pointer none,.int .u64 0,.int .u64 0,.pointer none,.int .i64 0,.pointer none,.int .i64 0];have lu:=h.below hB;have hMW:=hM.below hB;have HW:=qd hW;have HB:=qd hB;have hg:=World.block_lt_of_cell? w _ (hT 0 (by omega));have htl:=h.aR;have hgl:=h.aS;have hml:=hM.lt;unfold bP aG bH;clear hW hB h hM;refine(callsIn_wide (n:=10)).1 ?_
 have h1:1≤10:=by omega
 refine kF Tryz.func143 rfl trivial rfl ?_;simp only[Tryz.ntmps143,List.size_toArray,List.length_cons,List.length_nil,Nat.reduceAdd,Nat.reduceSub,Array.replicate_succ,Array.replicate_zero,List.push_toArray,List.append_toArray,List.nil_append,List.cons_append];refine wpIn_wide.2 ?_;go_upto_region 1 with fail;rw[←HW.out];have ca0:=hA.cell 0;simp only[List.getElem?_toArray,List.getElem?_cons_zero]at ca0;have ck0:=hK.cell 0;simp only[List.getElem?_toArray,List.getElem?_cons_zero]at ck0;have ch0:=hH.cell 0;simp only[List.getElem?_toArray,List.getElem?_cons_zero]at ch0;go_upto_region 2 with fail;have hSp:=aj.new W 240 #[pQ tb,nU key,nU hash,.pointer none,.int .i64 (-1),.pointer none,.int .i64 (-1)];have hBW:=(Below.refl W.heap.size W).alloc (Nat.le_refl _) (.cells #[pQ tb,nU key,nU hash,.pointer none,.int .i64 (-1),.pointer none,.int .i64 (-1)] 240);obtain⟨W1,hW1⟩:∃W1,W1=W.alloc (.cells #[pQ tb,nU key,nU hash,.pointer none,.int .i64 (-1),.pointer none,.int .i64 (-1)] 240):=⟨_,rfl⟩;rw[←hW1]at hSp hBW⊢;have HW1:=qd hW1;clear hW1;have hT1:=lu.below hBW;have hM1:=hMW.below hBW;have ht:=aD hBW ca0;have hh:=aD hBW ch0;have hc:=hT1.cells.1;have yP:Below w.heap.size w W1:=bR hBW HB.out;have hlR:=hR.lt;have aed:=hSp.lt
 refine rT (fun(w':World)=>w'.cell? ⟨w.heap.size+1+1+1,0,none⟩=some (nU hash)∧w'.cell? ⟨w.heap.size,0,none⟩=some (pQ tb)∧w'.cell? ⟨tb,0,none⟩=some (.slice (some ⟨gb,0,none⟩) T.gs.length T.gs.length)) [] ?_;have hHeld:=(⟨hh,ht,hc⟩:_∧_∧_);refine vT 0 rfl ?_;refine vT 2 rfl ?_;refine vW 3 rfl ?_;refine vW 4 rfl ?_;refine vT 5 rfl ?_;refine vW 6 rfl ?_;refine nT 1 rfl fun K hK=> ?_;go_simp;refine(Vr hash _).mono ?_;rintro e w1 ⟨rfl,rfl⟩;go_wp2_with fail;have hHeld:=(⟨hh,ht,hc⟩:_∧_∧_);refine kO hK ?_;clear hK K;refine nT 7 rfl fun K hK=> ?_;go_simp;refine(Qi (hash/128) T.gs.length _).mono ?_;rintro e w1 ⟨rfl,hw1⟩;have hb1:Below W1.heap.size W1 w1:=hw1▸(((Below.refl W1.heap.size W1).drew).alloc (Nat.le_refl _) _).alloc (by simp) _;have vI:aj w1 W1.heap.size 23 #[.int .u64 ((hash/128:Nat):Int)]:=hw1▸(aj.new W1.drew _ _).alloc _
 have hBg:aj w1 (W1.heap.size+1) 3 #[nI T.gs.length]:=by rw[←hw1];have h0:=aj.new (W1.drew.alloc (.cells #[.int .u64 ((hash/128:Nat):Int)] 23)) 3 #[nI T.gs.length];rw[show(W1.drew.alloc (.cells #[.int .u64 ((hash/128:Nat):Int)] 23)).heap.size=W1.heap.size+1 by simp]at h0;exact h0
 clear hw1;go_wp2_with fail;replace hh:=aD hb1 hh;replace ht:=aD hb1 ht;replace hc:=aD hb1 hc;have hHeld:=(⟨hh,ht,hc⟩:_∧_∧_);refine kO hK ?_;clear hK K;refine aQ (by kernel_rfl) ?_ _;go_wp2_with fail;refine(wpIn_wide (n:=10)).1 ?_;have hA1:=(hA.below hBW hA.lt).below hb1 (hA.below hBW hA.lt).lt;have hL1:=(hL.below hBW hL.lt).below hb1 (hL.below hBW hL.lt).lt;have hK1:=(hK.below hBW hK.lt).below hb1 (hK.below hBW hK.lt).lt;have hH1:=(hH.below hBW hH.lt).below hb1 (hH.below hBW hH.lt).lt;have vJ:=(hR.below hBW hR.lt).below hb1 (hR.below hBW hR.lt).lt;have hTw:=hT1.below hb1;have aaw:fG w1:=fun i hi=>((yP.trans (hb1.mono yP.size)).cell (p:=⟨14,oq i,none⟩) hg).trans (hT i hi);have hbl:=hb1.size
 have hgs:14 <w1.heap.size:=by have:=yP.size;omega
 refine wpIn_rangeFunc_ownH rfl h1 (gf:=220) (lb:= #[.pointer (some ⟨W1.heap.size+1,0,none⟩),pQ W1.heap.size]) rfl trivial (enters_of Tryz.func220 (by kernel_rfl) rfl)
  (Qj (10-1) (by omega) (W1.heap.size+1) W1.heap.size w1.heap.size [W.heap.size,mb] (hash/128) T.gs.length (by omega) hP w1 hBg.lt (by simp;omega) vI.lt (Nat.le_refl _) (hBg.cell 0) (vI.cell 0)) dK (vk (Nat.le_refl _)) (Below.refl _ _) (fun _=>rfl)
  (fun pre V=>((∃fp,aj V W.heap.size 240 (dP tb key hash none (-1) fp (bK (eY T.gs (vals pre))))∧gW gb (eY T.gs (vals pre)) fp)∧Met V mb mt gF eD mo (eB a0 c pre.length) (eB l0 c pre.length) m∧∀y∈pre,Passed T.gs key hash y.val)∧aW w1.heap.size [W.heap.size,mb] w1 V)
  (fun cd pre V=>(cd= .ret∧∃pre' x ap fp,pre=pre'++[x]∧(∀y∈pre',Passed T.gs key hash y.val)∧(gI (T.gs.getD x.val []) key hash≠none∨dF (T.gs.getD x.val [])=true)∧
   aj V (w.heap.size+1+1+1+1) 240 (dP tb key hash ap (bK (uQ T.gs key hash x.val)) fp (bK (eY T.gs (vals pre))))∧gW gb (uQ T.gs key hash x.val) ap∧gW gb (eY T.gs (vals pre)) fp∧
   Met V mb mt gF eD mo (eB a0 c pre.length) (eB l0 c pre.length) m)∧aW w.heap.size [mb] w V)
  (OwnFrom.and (fun _ X Y row hs hg hr=>by
   obtain⟨⟨fp,h2,h3⟩,h4,h5⟩:=hs
   exact⟨⟨fp,yO h2 hg (fun r e=>(hr r e).2),h3⟩,Cz h4 hg (fun r e=>(hr r e).2),h5⟩) (o7 (Nat.le_refl _) (Nat.le_refl _)))
  (fun cd=>OwnFrom.and (fun _ X Y row hs hg hr=>by
   obtain⟨h0,pre',x,ap,fp,h2,h3,h4,h5,h6,h7,h8⟩:=hs
   exact⟨h0,pre',x,ap,fp,h2,h3,h4,yO h5 hg (fun r e=>(hr r e).2),h6,h7,Cz h8 hg (fun r e=>(hr r e).2)⟩) (o7 (Nat.le_refl _) (by have:=yP.size;omega)))
  ⟨⟨⟨none,hSp.below hb1 hSp.lt,fun i s he=>by cases he⟩,hM1.below hb1,by simp⟩,aW.refl _ _ _⟩
  (fun x a' _=>a'={tmps:= #[pQ tb,.agg #[.pointer (some ⟨mb,mo,none⟩),.int .i64 c.p,.int .i64 c.v,.int .i64 c.u],nU key,nU hash,pQ w.heap.size,.pointer (some ⟨w.heap.size+1,0,none⟩),.pointer (some ⟨w.heap.size+1+1,0,none⟩),.pointer (some ⟨w.heap.size+1+1+1,0,none⟩),.pointer (some ⟨w.heap.size+1+1+1+1,0,none⟩),pQ W.heap.size,nI x.val,undef,undef,pQ tb,nU key,nU hash,.agg #[.pointer none,.int .i64 (-1)],.agg #[.pointer none,.int .i64 (-1)],.agg #[pQ tb,nU key,nU hash,.pointer none,.int .i64 (-1),.pointer none,.int .i64 (-1)],nU hash,.int .u64 ((hash:Int)/128),pQ tb,pQ tb,pQ tb,.slice (some ⟨gb,0,none⟩) T.gs.length T.gs.length,nI T.gs.length,.func (.func 220) #[] #[.pointer (some ⟨W1.heap.size+1,0,none⟩),pQ W1.heap.size],nI x.val,undef,undef,undef,undef,undef,undef,undef,undef,undef,undef,undef,undef,undef,undef,undef,undef,undef,undef,undef,undef,undef,undef,undef,undef,undef,undef,undef,undef,undef,undef,undef,undef],defers:=[]})
  (fun _ _ _ _ _ _ hs _ _=>hs) ?assign ?body ?done ?stop
 case assign=>
  rintro lp pre x V K hi hK
  gi_wp2
  exact hK _ _ (KeepsFrom.refl _ _) (aW.refl _ _ _) hi rfl
 case body=>
  rintro lp pre x a' V hl ⟨r,hr⟩ ⟨⟨⟨fp,Bl,hfp⟩,OE,hps⟩,nM⟩ rfl hlt;have hAV:=nM.blk hA1 (by omega) (by simp;omega);have hLV:=nM.blk hL1 (by omega) (by simp;omega);have hTV:=hTw.keep nM (by omega) (by omega) (by simp;omega) (by simp;omega);have hxn:x.val<T.gs.length:=x.isLt;have VW:=hP.le
  have hxi:(x.val:Int)<(T.gs.length:Int):=by omega
  have hx0:(0:Int)≤(x.val:Int):=by omega
  have Bd:=nM.size;have t0:=hAV.cell 0;simp only[List.getElem?_toArray,List.getElem?_cons_zero]at t0;obtain⟨Iw,Iy,Iz,IB⟩:=hLV.c4;have hc:=hTV.cells.1;have HS:=qd (fun(wX:World) (M:Mod [mb] V wX)=>show(fun(w':World)=>w'.cell? ⟨w.heap.size,0,none⟩=some (pQ tb)∧w'.cell? ⟨tb,0,none⟩=some (.slice (some ⟨gb,0,none⟩) T.gs.length T.gs.length)∧w'.cell? ⟨w.heap.size+1,0,none⟩=some (.pointer (some ⟨mb,mo,none⟩))∧w'.cell? ⟨w.heap.size+1,1,none⟩=some (.int .i64 c.p)∧w'.cell? ⟨w.heap.size+1,2,none⟩=some (.int .i64 c.v)∧w'.cell? ⟨w.heap.size+1,3,none⟩=some (.int .i64 c.u)) wX from⟨(M.cell_ (p:=⟨w.heap.size,0,none⟩) (by show w.heap.size<_;omega) (by simp;omega)).trans t0,(M.cell_ (p:=⟨tb,0,none⟩) (by show tb<_;omega) (by simp;omega)).trans hc,(M.cell_ (p:=⟨w.heap.size+1,0,none⟩) (by show w.heap.size+1<_;omega) (by simp;omega)).trans Iw,(M.cell_ (p:=⟨w.heap.size+1,1,none⟩) (by show w.heap.size+1<_;omega) (by simp;omega)).trans Iy,(M.cell_ (p:=⟨w.heap.size+1,2,none⟩) (by show w.heap.size+1<_;omega) (by simp;omega)).trans Iz,(M.cell_ (p:=⟨w.heap.size+1,3,none⟩) (by show w.heap.size+1<_;omega) (by simp;omega)).trans IB⟩)
  gi_wp2_with fail
  refine acI (fun a' w2=>∃vb,a'={tmps:= #[pQ tb,.agg #[.pointer (some ⟨mb,mo,none⟩),.int .i64 c.p,.int .i64 c.v,.int .i64 c.u],nU key,nU hash,pQ w.heap.size,.pointer (some ⟨w.heap.size+1,0,none⟩),.pointer (some ⟨w.heap.size+1+1,0,none⟩),.pointer (some ⟨w.heap.size+1+1+1,0,none⟩),.pointer (some ⟨w.heap.size+1+1+1+1,0,none⟩),pQ W.heap.size,nI x.val,pQ vb,undef,pQ tb,nU key,nU hash,.agg #[.pointer none,.int .i64 (-1)],.agg #[.pointer none,.int .i64 (-1)],.agg #[pQ tb,nU key,nU hash,.pointer none,.int .i64 (-1),.pointer none,.int .i64 (-1)],nU hash,.int .u64 ((hash:Int)/128),pQ tb,pQ tb,pQ tb,.slice (some ⟨gb,0,none⟩) T.gs.length T.gs.length,nI T.gs.length,.func (.func 220) #[] #[.pointer (some ⟨W1.heap.size+1,0,none⟩),pQ W1.heap.size],nI x.val,pQ tb,pQ tb,pQ tb,.slice (some ⟨gb,0,none⟩) T.gs.length T.gs.length,nI x.val,.pointer (some ⟨gb,x.val*25,none⟩),.agg #[.pointer (some ⟨mb,mo,none⟩),.int .i64 c.p,.int .i64 c.v,.int .i64 c.u],.agg #[.pointer (some ⟨gb,x.val*25,none⟩)],undef,undef,undef,undef,undef,undef,undef,undef,undef,undef,undef,undef,undef,undef,undef,undef,undef,undef,undef,undef,undef,undef,undef,undef],defers:=[]}∧aj w2 vb 219 #[.pointer (some ⟨gb,x.val*25,none⟩)]∧V.heap.size≤vb∧Met w2 mb mt gF eD mo (iU (eB a0 c pre.length) c) (iU (eB l0 c pre.length) c) m∧Mod [mb] V w2) ?_ ?_
  ·refine zB (fun(w':World)=>w'.cell? ⟨w.heap.size,0,none⟩=some (pQ tb)∧w'.cell? ⟨tb,0,none⟩=some (.slice (some ⟨gb,0,none⟩) T.gs.length T.gs.length)∧w'.cell? ⟨w.heap.size+1,0,none⟩=some (.pointer (some ⟨mb,mo,none⟩))∧w'.cell? ⟨w.heap.size+1,1,none⟩=some (.int .i64 c.p)∧w'.cell? ⟨w.heap.size+1,2,none⟩=some (.int .i64 c.v)∧w'.cell? ⟨w.heap.size+1,3,none⟩=some (.int .i64 c.u)) [] (by kernel_rfl) (by kernel_rfl) (by rintro⟨_,_,h⟩;exact h) ?_
   try (change bL _ _ _ _ _ _ _ _ _ (World.drew _))
   have hHeld:=(⟨t0,hc,Iw,Iy,Iz,IB⟩:_∧_∧_∧_∧_∧_);refine vT 0 rfl ?_;refine vW 1 rfl ?_;refine vW 2 rfl ?_;refine vT 3 rfl ?_;refine vW 4 rfl ?_;refine vW 5 rfl ?_;refine vT 6 rfl ?_;refine pairT (i:=7) (j:=8) (o:=⟨some 35,_,_,_,_,_⟩) (o':=⟨some 11,_,_,_,_,_⟩) rfl rfl (by kernel_rfl) (fun K hK=> ?_) (fun K hK=> ?_)
   ·go_simp;refine(uO ⟨gb,x.val*25,none⟩ mb mt gF eD mo _ _ m c _ (OE.below (Below.refl _ _).drew)).mono ?_;rintro e w2 ⟨rfl,hM2,hm2⟩;simp only[bq];go_wp2_with fail;have M7:Mod [mb] V w2:=(Mod.drewN [mb] V 1).then hm2;refine hK.out _ _ (fun _=>HS.out _ M7) ?_;clear hK K
    try simp only[pt]
    refine nT 8 rfl fun K hK=> ?_;go_simp;have M8:Mod [mb] V (w2.alloc (.cells #[.pointer none] 219)):=M7.alloc _;have Bn:=aj.new w2 219 #[.pointer none];have OG:=hM2.below ((Below.refl w2.heap.size w2).alloc (Nat.le_refl _) (.cells #[.pointer none] 219));have acK:=M7.size;obtain⟨w3,hw3⟩:∃w3,w3=w2.alloc (.cells #[.pointer none] 219):=⟨_,rfl⟩;rw[←hw3]at M8 Bn OG⊢;clear hw3;refine hK.out _ _ (fun _=>HS.out _ M8) ?_;clear hK K
    try simp only[pt]
    refine nT 9 rfl fun K hK=> ?_;have n0:=Bn.cell 0;simp only[List.getElem?_toArray,List.getElem?_cons_zero]at n0;have nf:=Bn.frozen 0;go_simp;have M9:=M8.ak (b:=w2.heap.size) (.inr (by omega)) 0 (.pointer (some ⟨gb,x.val*25,none⟩));refine hK.out _ _ (fun _=>HS.out _ M9) ?_;clear hK K
    try simp only[pt]
    refine aQ (by kernel_rfl) ?_ _;exact⟨w2.heap.size,rfl,Bn.ak 0 _,acK,⟨OG.len,OG.blk.far (p:=⟨w2.heap.size,0,none⟩) (by show mb≠w2.heap.size;omega) _⟩,M9⟩
   ·go_simp;have M8:Mod [mb] V (V.alloc (.cells #[.pointer none] 219)).drew:=((Mod.refl [mb] V).alloc _).then (Mod.drewN [mb] _ 1);have Bn:aj (V.alloc (.cells #[.pointer none] 219)).drew V.heap.size 219 #[.pointer none]:=(aj.new V _ _).drew;have OG:=OE.below (((Below.refl V.heap.size V).alloc (Nat.le_refl _) (.cells #[.pointer none] 219)).drew);obtain⟨w3,hw3⟩:∃w3,w3=(V.alloc (.cells #[.pointer none] 219)).drew:=⟨_,rfl⟩;rw[←hw3]at M8 Bn OG⊢;clear hw3;refine hK.out _ _ (fun _=>HS.out _ M8) ?_;clear hK K
    try simp only[pt]
    refine nT 7 rfl fun K hK=> ?_;go_simp;refine(uO ⟨gb,x.val*25,none⟩ mb mt gF eD mo _ _ m c _ OG).mono ?_;rintro e w2 ⟨rfl,hM2,hm2⟩;simp only[bq];go_wp2_with fail;have M7:Mod [mb] V w2:=M8.then hm2;replace Bn:=Bn.mod hm2 (by simp;omega);refine hK.out _ _ (fun _=>HS.out _ M7) ?_;clear hK K
    try simp only[pt]
    refine nT 9 rfl fun K hK=> ?_;have n0:=Bn.cell 0;simp only[List.getElem?_toArray,List.getElem?_cons_zero]at n0;have nf:=Bn.frozen 0;go_simp;have M9:=M7.ak (b:=V.heap.size) (.inr (Nat.le_refl _)) 0 (.pointer (some ⟨gb,x.val*25,none⟩));refine hK.out _ _ (fun _=>HS.out _ M9) ?_;clear hK K
    try simp only[pt]
    refine aQ (by kernel_rfl) ?_ _;exact⟨V.heap.size,rfl,Bn.ak 0 _,Nat.le_refl _,⟨hM2.len,hM2.blk.far (p:=⟨V.heap.size,0,none⟩) (by show mb≠V.heap.size;omega) _⟩,M9⟩
  ·rintro a' w2 ⟨vb,rfl,Sw,hvb,hM2,hm2⟩;simp only[Array.mk.injEq];have hK2:aW w1.heap.size [W.heap.size,mb] w1 w2:=dK nM ((hm2.more (T:=[W.heap.size,mb]) (by simp)).uP Bd);have VX:aW w1.heap.size [W.heap.size,mb] V w2:=(hm2.more (T:=[W.heap.size,mb]) (by simp)).uP Bd;have jy:=hTV.mod hm2 (by simp;omega) (by simp;omega);have hS2:=Bl.mod hm2 (by simp;omega);have VY:=hK2.blk hK1 (by omega) (by simp;omega);have VZ:=hK2.blk hH1 (by omega) (by simp;omega);have hR2:=hK2.blk vJ (by omega) (by simp;omega);have V4:fG w2:=hK2.tz hgs (by simp;omega) aaw;have V5:KeepsFrom w1.heap.size V w2:=iM hm2 (by simp;omega);have aee:w1.heap.size≤vb:=Nat.le_trans Bd hvb;cases hfr:eY T.gs (vals pre)
   case' some y=>
    have hfr2:eY T.gs (vals (pre++[x]))=some y:=by rw[wV,sQ,hfr];rfl
    rw[hfr]at hS2 hfp;obtain⟨wq,hwq⟩:∃wq,wq=w2:=⟨_,rfl⟩;obtain⟨uK,GK⟩:∃uK,uK=fp:=⟨_,rfl⟩;rw[←hwq]at hS2 Sw VY VZ hR2 jy V4 V5 hK2 VX hM2⊢;rw[←GK]at hS2 hfp;clear hwq GK hm2;have Bo:=hS2;have IC:gW gb (eY T.gs (vals (pre++[x]))) uK:=hfr2▸hfp;have IE:=Sw;have hKq:=VY;have K8:=hR2;have Sy:=hM2;have Bp:=hK2;have V6:=VX;have V7:=V5;have hHq:=VZ;have Ya:=jy;have aax:=V4
    have hsl:¬bK (some y)<0:=by simp only[bK];omega
    generalize hsv:bK (some y)=sv at*
    have Yb:bK (eY T.gs (vals (pre++[x])))=sv:=by rw[hfr2];exact hsv
    unfold dP at Bo;obtain⟨p0,p1,p2,p3,p4,p5,p6⟩:=Bo.c7
   case' none=>
    rw[hfr]at hS2;simp only[dP,bK]at hS2;obtain⟨p0,p1,p2,p3,p4,p5,p6⟩:=hS2.c7;have v0:=Sw.cell 0;simp only[List.getElem?_toArray,List.getElem?_cons_zero]at v0;obtain⟨q0,q1,q2,q3,q4,q5,q6⟩:=hS2.f7;have K9:=qd (VP gb _ _ _ (x.val*25) _ w2.drew ((jy.below (Below.refl _ _).drew).group x.val hxn) (fun i hi=>V4 i hi));obtain⟨fv,hfv⟩:∃fv,fv=sw (kC (T.gs.getD x.val [])):=⟨_,rfl⟩;rw[←hfv]at K9;have Hfv:=qd hfv;clear hfv
    gi_wp2_with fail
    refine zB (fun(w':World)=>w'.cell? ⟨vb,0,none⟩=some (.pointer (some ⟨gb,x.val*25,none⟩))) [5] (by kernel_rfl) (by kernel_rfl) (by rintro⟨_,_,h⟩;exact h) ?_
    try (change bL _ _ _ _ _ _ _ _ _ (World.drew _))
    have hHeld:=v0;refine vT 0 rfl ?_;refine vT 1 rfl ?_;refine nT 2 rfl fun K hK=> ?_;go_simp;refine(K9.out).mono ?_;rintro e w3 ⟨rfl,hb3⟩;replace hb3:Below w2.heap.size w2 w3:=bR hb3 (Below.refl _ _).drew;go_wp2_with fail;have hHeld:=show(fun(w':World)=>w'.cell? ⟨vb,0,none⟩=some (.pointer (some ⟨gb,x.val*25,none⟩))) _ from aD hb3 v0;refine kO hK ?_;clear hK K;refine vW 3 rfl ?_;refine vW 4 rfl ?_;refine nT 5 rfl fun K hK=> ?_;have p5n:=aD hb3 p5;have p6n:=aD hb3 p6;have q5n:=(hS2.below hb3 hS2.lt).frozen 5;have q6n:=(hS2.below hb3 hS2.lt).frozen 6;go_simp;refine kO hK ?_;clear hK K;refine aQ (by kernel_rfl) ?_ _
    have hfr2:eY T.gs (vals (pre++[x]))=(kC (T.gs.getD x.val [])).map fun s=>(x.val,s):=by rw[wV,sQ,hfr];rfl
    have aay:bK (eY T.gs (vals (pre++[x])))=sw (kC (T.gs.getD x.val [])):=by rw[hfr2];cases kC (T.gs.getD x.val [])<;>rfl
    obtain⟨wq,hwq⟩:∃wq,wq=(w3.setCell ⟨W.heap.size,5,none⟩ (.pointer (some ⟨gb,x.val*25,none⟩))).setCell ⟨W.heap.size,6,none⟩ (.int .i64 fv):=⟨_,rfl⟩;rw[←hwq];have Mq:Mod [W.heap.size] w2 wq:=hwq▸(((Mod.of_below hb3 [W.heap.size]).ak (.inl (by simp)) _ _).ak (.inl (by simp)) _ _)
    have Qo:aj wq W.heap.size 240 (dP tb key hash none (-1) (some ⟨gb,x.val*25,none⟩) fv):=by
     have:=((hS2.below hb3 hS2.lt).ak 5 (.pointer (some ⟨gb,x.val*25,none⟩))).ak 6 (.int .i64 fv);rw[hwq];simpa only[List.setIfInBounds_toArray,List.set_cons_zero,List.set_cons_succ,dP]using this
    obtain⟨uK,GK⟩:∃uK:Option Addr,uK=some ⟨gb,x.val*25,none⟩:=⟨_,rfl⟩;rw[←GK]at Qo
    have IC:gW gb (eY T.gs (vals (pre++[x]))) uK:=fun a b hab=>by
     rw[hfr2]at hab
     cases hg2:kC (T.gs.getD x.val [])with
     |none=>
      rw[hg2]at hab;cases hab
     |some s2=>
      rw[hg2]at hab;cases hab;exact GK
    clear hwq GK;have IE:=Sw.mod Mq (by simp;omega);have hKq:=VY.mod Mq (by simp;omega);have hHq:=VZ.mod Mq (by simp;omega);have K8:=hR2.mod Mq (by simp;omega);have Sy:=hM2.mod Mq (by simp;omega);have Ya:=jy.mod Mq (by simp;omega) (by simp;omega);have aaz:=hK2.size;have Bp:=dK hK2 (lZ (Mq.uP (Nat.le_refl _)) aaz (T:=[W.heap.size,mb]) (by simp;omega));have V6:=dK VX (lZ (Mq.uP (Nat.le_refl _)) aaz (T:=[W.heap.size,mb]) (by simp;omega));have V7:=V5.trans (iM Mq (by simp;omega));have aax:fG wq:=Bp.tz hgs (by simp;omega) aaw;obtain⟨sv,V8⟩:∃sv,sv=fv:=⟨_,rfl⟩;rw[←V8]at Qo
    have Yb:bK (eY T.gs (vals (pre++[x])))=sv:=by rw[aay,V8];exact Hfv.out.symm
    clear V8 aay;have Bo:=Qo;unfold dP at Bo;clear Qo hS2 hm2 Mq v0 Sw;obtain⟨pz0,pz1,pz2,pz3,pz4,pz5,pz6⟩:=Bo.c7
   all_goals
    have v0:=IE.cell 0;simp only[List.getElem?_toArray,List.getElem?_cons_zero]at v0;have kk0:=hKq.cell 0;simp only[List.getElem?_toArray,List.getElem?_cons_zero]at kk0;have hh0:=hHq.cell 0;simp only[List.getElem?_toArray,List.getElem?_cons_zero]at hh0;have Im:=qd (sD (q:=7) (VO gb 223 (cO (T.gs.take x.val)) (cO (T.gs.drop (x.val+1))) (x.val*25) (T.gs.getD x.val []) wq (Ya.group x.val hxn) key hash h64 aax))
    cases hf:gI (T.gs.getD x.val []) key hash with
    |some s=>
     rw[hf]at Im;simp only[sw]at Im
     have hs0:(0:Int)≤(s:Int):=by omega
     gi_wp2_with fail
     refine⟨trivial,(CallsIn.inRound lp Im.out).mono ?_⟩;rintro e w5 ⟨rfl,hb5⟩;have wS:=dK Bp (aW.of_below (n₀:=w1.heap.size) (S:=[W.heap.size,mb]) (hb5.mono (by have:=Bp.size;omega)));have Qp:=dK V6 (aW.of_below (n₀:=w1.heap.size) (S:=[W.heap.size,mb]) (hb5.mono (by have:=Bp.size;omega)));have uw:=V7.trans (iM (Mod.of_below hb5 []) (by simp));have hS5:=Bo.below hb5 Bo.lt;have IG:=K8.below hb5 K8.lt;have OH:=IE.below hb5 IE.lt;have OI:=Sy.below hb5;have l7:=Ya.below hb5;obtain⟨s0,s1,s2,s3,s4,s5,s6⟩:=hS5.c7;obtain⟨sf0,sf1,sf2,sf3,sf4,sf5,sf6⟩:=hS5.f7;obtain⟨r0,r1,r2,r3,r4,r5,r6⟩:=IG.c7;obtain⟨rf0,rf1,rf2,rf3,rf4,rf5,rf6⟩:=IG.f7;have OJ:=OH.cell 0;simp only[List.getElem?_toArray,List.getElem?_cons_zero]at OJ;clear v0 kk0 hh0 hS5 OH hb5 Bo IE K8 Sy;obtain⟨w6,lC⟩:∃w6,w6=((((((((w5.setCell ⟨W.heap.size,3,none⟩ (.pointer (some ⟨gb,x.val*25,none⟩))).setCell ⟨W.heap.size,4,none⟩ (nI s)).setCell ⟨w.heap.size+1+1+1+1,0,none⟩ (pQ tb)).setCell ⟨w.heap.size+1+1+1+1,1,none⟩ (nU key)).setCell ⟨w.heap.size+1+1+1+1,2,none⟩ (nU hash)).setCell ⟨w.heap.size+1+1+1+1,3,none⟩ (.pointer (some ⟨gb,x.val*25,none⟩))).setCell ⟨w.heap.size+1+1+1+1,4,none⟩ (nI s)).setCell ⟨w.heap.size+1+1+1+1,5,none⟩ (.pointer uK)).setCell ⟨w.heap.size+1+1+1+1,6,none⟩ (.int .i64 sv):=⟨_,rfl⟩
     have M6:Mod [W.heap.size,w.heap.size+1+1+1+1] w5 w6:=lC▸((((((((((Mod.refl [W.heap.size,w.heap.size+1+1+1+1] w5).ak (.inl (by simp)) _ _).ak (.inl (by simp)) _ _).ak (.inl (by simp)) _ _).ak (.inl (by simp)) _ _).ak (.inl (by simp)) _ _).ak (.inl (by simp)) _ _).ak (.inl (by simp)) _ _).ak (.inl (by simp)) _ _).ak (.inl (by simp)) _ _)
     have B6:aj w6 (w.heap.size+1+1+1+1) 240 (dP tb key hash (some ⟨gb,x.val*25,none⟩) (s:Int) uK sv):=by
      have:=(((((((((IG).far (p:=⟨W.heap.size,3,none⟩) (by show w.heap.size+1+1+1+1≠W.heap.size;omega) (.pointer (some ⟨gb,x.val*25,none⟩))).far (p:=⟨W.heap.size,4,none⟩) (by show w.heap.size+1+1+1+1≠W.heap.size;omega) (nI s)).ak 0 (pQ tb)).ak 1 (nU key)).ak 2 (nU hash)).ak 3 (.pointer (some ⟨gb,x.val*25,none⟩))).ak 4 (nI s)).ak 5 (.pointer uK)).ak 6 (.int .i64 sv);rw[lC];simpa only[List.setIfInBounds_toArray,List.set_cons_zero,List.set_cons_succ,dP]using this
     have T6:=OI.mod M6 (by simp;omega);have K6:aW w.heap.size [mb] w w6:=dK (dK (aW.of_below (yP.trans (hb1.mono yP.size))) (lZ wS (by omega) (by simp;omega))) (lZ (M6.uP (Nat.le_refl _)) (by have:=wS.size;have:=yP.size;omega) (by simp;omega));have F6:KeepsFrom w1.heap.size V w6:=uw.trans (iM M6 (by simp;omega));have HE:=qd (And.intro B6 (And.intro T6 (And.intro K6 F6)));clear M6 B6 T6 K6 F6;have Sz:=qd lC;clear lC
     gi_wp2
     rw[←Sz.out];exact⟨HE.out.2.2.2,⟨rfl,pre,x,some ⟨gb,x.val*25,none⟩,uK,rfl,hps,.inl (by rw[hf];simp),by rw[Yb,uQ,hf];exact HE.out.1,fun a b hab=>by rw[uQ,hf]at hab;cases hab;rfl,IC,by rw[List.length_append];exact HE.out.2.1⟩,HE.out.2.2.1⟩
    |none=>
     rw[hf]at Im;simp only[sw]at Im
     gi_wp2_with fail
     refine⟨trivial,(CallsIn.inRound lp Im.out).mono ?_⟩;rintro e w4 ⟨rfl,hb4⟩;have hK4:=dK Bp (aW.of_below (n₀:=w1.heap.size) (S:=[W.heap.size,mb]) (hb4.mono (by have:=Bp.size;omega)));have aaA:=dK V6 (aW.of_below (n₀:=w1.heap.size) (S:=[W.heap.size,mb]) (hb4.mono (by have:=Bp.size;omega)));have Bf:=V7.trans (iM (Mod.of_below hb4 []) (by simp));have II:=Bo.below hb4 Bo.lt;have mX:=K8.below hb4 K8.lt;have OL:=IE.below hb4 IE.lt;have Fy:=Sy.below hb4;have OM:=Ya.below hb4;have OJ:=OL.cell 0;simp only[List.getElem?_toArray,List.getElem?_cons_zero]at OJ;have La:=qd (sD (q:=7) (VQ gb _ _ _ (x.val*25) _ w4 (OM.group x.val hxn)))
     cases ho':dF (T.gs.getD x.val [])with
     |true=>
      rw[ho']at La;have ho:dF (T.gs.getD x.val [])=true:=ho'
      gi_wp2_with fail
      refine⟨trivial,(CallsIn.inRound lp La.out).mono ?_⟩;rintro e w5 ⟨rfl,hb5⟩;have wS:=dK hK4 (aW.of_below (n₀:=w1.heap.size) (S:=[W.heap.size,mb]) (hb5.mono (by have:=hK4.size;omega)));have Qp:=dK aaA (aW.of_below (n₀:=w1.heap.size) (S:=[W.heap.size,mb]) (hb5.mono (by have:=hK4.size;omega)));have uw:=Bf.trans (iM (Mod.of_below hb5 []) (by simp));have hS5:=II.below hb5 II.lt;have IG:=mX.below hb5 mX.lt;have OH:=OL.below hb5 OL.lt;have OI:=Fy.below hb5;have l7:=OM.below hb5;obtain⟨s0,s1,s2,s3,s4,s5,s6⟩:=hS5.c7;obtain⟨sf0,sf1,sf2,sf3,sf4,sf5,sf6⟩:=hS5.f7;obtain⟨r0,r1,r2,r3,r4,r5,r6⟩:=IG.c7;obtain⟨rf0,rf1,rf2,rf3,rf4,rf5,rf6⟩:=IG.f7;have OJ:=OH.cell 0;simp only[List.getElem?_toArray,List.getElem?_cons_zero]at OJ;clear v0 kk0 hh0 OJ hS5 OH hb5 Bo IE K8 Sy II mX OL Fy;obtain⟨w6,lC⟩:∃w6,w6=((((((w5.setCell ⟨w.heap.size+1+1+1+1,0,none⟩ (pQ tb)).setCell ⟨w.heap.size+1+1+1+1,1,none⟩ (nU key)).setCell ⟨w.heap.size+1+1+1+1,2,none⟩ (nU hash)).setCell ⟨w.heap.size+1+1+1+1,3,none⟩ (.pointer none)).setCell ⟨w.heap.size+1+1+1+1,4,none⟩ (.int .i64 (-1))).setCell ⟨w.heap.size+1+1+1+1,5,none⟩ (.pointer uK)).setCell ⟨w.heap.size+1+1+1+1,6,none⟩ (.int .i64 sv):=⟨_,rfl⟩;have M6:Mod [W.heap.size,w.heap.size+1+1+1+1] w5 w6:=lC▸((((((((Mod.refl [W.heap.size,w.heap.size+1+1+1+1] w5).ak (.inl (by simp)) _ _).ak (.inl (by simp)) _ _).ak (.inl (by simp)) _ _).ak (.inl (by simp)) _ _).ak (.inl (by simp)) _ _).ak (.inl (by simp)) _ _).ak (.inl (by simp)) _ _)
      have B6:aj w6 (w.heap.size+1+1+1+1) 240 (dP tb key hash none (-1) uK sv):=by
       have:=(((((((IG).ak 0 (pQ tb)).ak 1 (nU key)).ak 2 (nU hash)).ak 3 (.pointer none)).ak 4 (.int .i64 (-1))).ak 5 (.pointer uK)).ak 6 (.int .i64 sv);rw[lC];simpa only[List.setIfInBounds_toArray,List.set_cons_zero,List.set_cons_succ,dP]using this
      have T6:=OI.mod M6 (by simp;omega);have K6:aW w.heap.size [mb] w w6:=dK (dK (aW.of_below (yP.trans (hb1.mono yP.size))) (lZ wS (by omega) (by simp;omega))) (lZ (M6.uP (Nat.le_refl _)) (by have:=wS.size;have:=yP.size;omega) (by simp;omega));have F6:KeepsFrom w1.heap.size V w6:=uw.trans (iM M6 (by simp;omega));have HE:=qd (And.intro B6 (And.intro T6 (And.intro K6 F6)));clear M6 B6 T6 K6 F6;have Sz:=qd lC;clear lC
      gi_wp2
      rw[←Sz.out];exact⟨HE.out.2.2.2,⟨rfl,pre,x,none,uK,rfl,hps,.inr ho,by rw[Yb,uQ,hf];exact HE.out.1,(fun a b hab=>by rw[uQ,hf]at hab;cases hab),IC,by rw[List.length_append];exact HE.out.2.1⟩,HE.out.2.2.1⟩
     |false=>
      rw[ho']at La
      gi_wp2_with fail
      refine⟨trivial,(CallsIn.inRound lp La.out).mono ?_⟩;rintro e w5 ⟨rfl,hb5⟩;have wS:=dK hK4 (aW.of_below (n₀:=w1.heap.size) (S:=[W.heap.size,mb]) (hb5.mono (by have:=hK4.size;omega)));have Qp:=dK aaA (aW.of_below (n₀:=w1.heap.size) (S:=[W.heap.size,mb]) (hb5.mono (by have:=hK4.size;omega)));have uw:=Bf.trans (iM (Mod.of_below hb5 []) (by simp));have hS5:=II.below hb5 II.lt;have IG:=mX.below hb5 mX.lt;have OH:=OL.below hb5 OL.lt;have OI:=Fy.below hb5;have l7:=OM.below hb5;have HPs:=qd (show∀y∈pre++[x],Passed T.gs key hash y.val from fun y hy=>(List.mem_append.1 hy).elim (hps y) (fun e=>by simp at e;subst e;exact⟨hf,ho'⟩));have HL5:=qd (show Met w5 mb mt gF eD mo (eB a0 c (pre++[x]).length) (eB l0 c (pre++[x]).length) m from by rw[List.length_append];exact OI);have SA:=qd (show∃fp,aj w5 W.heap.size 240 (dP tb key hash none (-1) fp (bK (eY T.gs (vals (pre++[x])))))∧gW gb (eY T.gs (vals (pre++[x]))) fp from⟨uK,by rw[Yb];exact hS5,IC⟩);have HE:=qd (And.intro uw (And.intro Qp wS));clear hps hf ho' OI hS5 uw Qp wS
      gi_wp2
      exact⟨HE.out.1,HE.out.2.1,⟨SA.out,HL5.out,HPs.out⟩,HE.out.2.2⟩
 case done=>
  rintro D ys V hD hys ⟨⟨⟨fp,Bl,hfp⟩,OE,hps⟩,nM⟩ pY
  have hse:aI T.gs key hash=(none,eY T.gs (vals ys),ys.length):=by
   have:=VT (gs:=T.gs) (key:=key) (hash:=hash) (pre:=vals ys) hys (fun i hi=>by
    obtain⟨y,hy,rfl⟩:=List.mem_map.1 hi
    exact hps y hy)
   rw[this];simp[vals]
  have rP:=nM.blk vJ (by omega) (by simp;omega);obtain⟨sv,V9⟩:∃sv,bK (eY T.gs (vals ys))=sv:=⟨_,rfl⟩;rw[V9]at Bl;unfold dP at Bl;have s0:=Bl.cell 0;have s1:=Bl.cell 1;have s2:=Bl.cell 2;have s3:=Bl.cell 3;have s4:=Bl.cell 4;have s5:=Bl.cell 5;have s6:=Bl.cell 6;have r0:=rP.cell 0;have r1:=rP.cell 1;have r2:=rP.cell 2;have r3:=rP.cell 3;have r4:=rP.cell 4;have r5:=rP.cell 5;have r6:=rP.cell 6;simp only[gl]at s0 s1 s2 s3 s4 s5 s6 r0 r1 r2 r3 r4 r5 r6;obtain⟨f0,f1,f2,f3,f4,f5,f6⟩:=rP.f7;obtain⟨w6,lC⟩:∃w6,w6=((((((V.setCell ⟨w.heap.size+1+1+1+1,0,none⟩ (pQ tb)).setCell ⟨w.heap.size+1+1+1+1,1,none⟩ (nU key)).setCell ⟨w.heap.size+1+1+1+1,2,none⟩ (nU hash)).setCell ⟨w.heap.size+1+1+1+1,3,none⟩ (.pointer none)).setCell ⟨w.heap.size+1+1+1+1,4,none⟩ (.int .i64 (-1))).setCell ⟨w.heap.size+1+1+1+1,5,none⟩ (.pointer fp)).setCell ⟨w.heap.size+1+1+1+1,6,none⟩ (.int .i64 sv):=⟨_,rfl⟩;have M6:Mod [w.heap.size+1+1+1+1] V w6:=lC▸((((((((Mod.refl [w.heap.size+1+1+1+1] V).ak (.inl (by simp)) _ _).ak (.inl (by simp)) _ _).ak (.inl (by simp)) _ _).ak (.inl (by simp)) _ _).ak (.inl (by simp)) _ _).ak (.inl (by simp)) _ _).ak (.inl (by simp)) _ _)
  have O6:KeepsOthers V w6:=lC▸((((((((KeepsOthers.refl V).trans (KeepsOthers.setCell _ ⟨w.heap.size+1+1+1+1,0,none⟩ (pQ tb))).trans (KeepsOthers.setCell _ ⟨w.heap.size+1+1+1+1,1,none⟩ (nU key))).trans (KeepsOthers.setCell _ ⟨w.heap.size+1+1+1+1,2,none⟩ (nU hash))).trans (KeepsOthers.setCell _ ⟨w.heap.size+1+1+1+1,3,none⟩ (.pointer none))).trans (KeepsOthers.setCell _ ⟨w.heap.size+1+1+1+1,4,none⟩ (.int .i64 (-1)))).trans (KeepsOthers.setCell _ ⟨w.heap.size+1+1+1+1,5,none⟩ (.pointer fp))).trans (KeepsOthers.setCell _ ⟨w.heap.size+1+1+1+1,6,none⟩ (.int .i64 sv)))
  have B6:aj w6 (w.heap.size+1+1+1+1) 240 (dP tb key hash none (-1) fp sv):=by
   have:=(((((((rP).ak 0 (pQ tb)).ak 1 (nU key)).ak 2 (nU hash)).ak 3 (.pointer none)).ak 4 (.int .i64 (-1))).ak 5 (.pointer fp)).ak 6 (.int .i64 sv);rw[lC];simpa only[List.setIfInBounds_toArray,List.set_cons_zero,List.set_cons_succ,dP]using this
  have Qq:=O6.same D _ pY rfl;have vM:=yO B6 (grownBy_putObj' w6 D (.deferred none)) (fun r e=>by cases e;exact⟨_,Qq,rfl⟩);have Yc:=Cz (OE.mod M6 (by simp;omega)) (grownBy_putObj' w6 D (.deferred none)) (fun r e=>by cases e;exact⟨_,Qq,rfl⟩);have OC:Mod [mb] w (w6.putObj D (.deferred none)):=(dK (dK (dK (aW.of_below (yP.trans (hb1.mono yP.size))) (lZ nM (by omega) (by simp;omega))) (lZ (M6.uP (Nat.le_refl _)) (by have:=nM.size;omega) (by simp;omega))) (vk (w:=w) (Nat.le_refl _) w6 D _ _ (by omega) Qq rfl rfl)).mod;have HE:=qd (And.intro Yc OC);have Sz:=qd lC;have Yd:=qd hse;have Hsv:=qd V9;clear lC M6 O6 B6 Yc OC hse V9;go_wp2;rw[←Sz.out];refine vo ⟨by simp,.inl ⟨_,_,rfl,run_takeDeferred Qq, ?_⟩⟩;have d0:=vM.cell 0;have d1:=vM.cell 1;have d2:=vM.cell 2;have d3:=vM.cell 3;have d4:=vM.cell 4;have d5:=vM.cell 5;have d6:=vM.cell 6;simp only[dP,List.getElem?_toArray,List.getElem?_cons_zero,List.getElem?_cons_succ]at d0 d1 d2 d3 d4 d5 d6;refine⟨.agg (dP tb key hash none (-1) fp sv), ?_,none,fp, ?_⟩
  ·simp[results,Tryz.f143,go_sem,d0,d1,d2,d3,d4,d5,d6,dP]
  ·rw[Yd.out];exact⟨by rw[Hsv.out];rfl,(fun i s hab=>by cases hab),hfp,HE.out.1,HE.out.2⟩
 case stop=>
  rintro D cd pre V hD ⟨j,hj,hj2⟩ ⟨⟨rfl,pre',x,ap,fp,he,hps,hend,rP,hap,hfp,OE⟩,nM⟩ pY;subst he;have hse:=Sv hj2 hps hend;have hc0:=rP.cell 0;have hc1:=rP.cell 1;have hc2:=rP.cell 2;have hc3:=rP.cell 3;have hc4:=rP.cell 4;have X8:=rP.cell 5;have hc6:=rP.cell 6;have vM:aj (V.putObj D (.deferred none)) (w.heap.size+1+1+1+1) 240 _:=yO rP (grownBy_putObj' V D (.deferred none)) (fun r e=>by cases e;exact⟨_,pY,rfl⟩);have Yc:=Cz OE (grownBy_putObj' V D (.deferred none)) (fun r e=>by cases e;exact⟨_,pY,rfl⟩)
  gi_wp2
  refine vo ⟨by simp,.inl ⟨_,_,rfl,run_takeDeferred pY, ?_⟩⟩;have d0:=vM.cell 0;have d1:=vM.cell 1;have d2:=vM.cell 2;have d3:=vM.cell 3;have d4:=vM.cell 4;have d5:=vM.cell 5;have d6:=vM.cell 6;simp only[dP,List.getElem?_toArray,List.getElem?_cons_zero,List.getElem?_cons_succ]at d0 d1 d2 d3 d4 d5 d6;refine⟨.agg (dP tb key hash ap (bK (uQ T.gs key hash x.val)) fp (bK (eY T.gs (vals (pre'++[x]))))), ?_,ap,fp, ?_⟩
  ·simp[results,Tryz.f143,go_sem,d0,d1,d2,d3,d4,d5,d6,dP]
  ·rw[hse];exact⟨rfl,hap,hfp,Yc,(dK nM (vk (w:=w) (Nat.le_refl _) V D _ _ (by have:=yP.size;omega) pY rfl rfl)).mod⟩
end Go.Proofs.YtgkeameopnpinaaGreatDoor

/-! Where a seek ends: the places are of the table. No program in sight. -/
namespace Go.Proofs.YtgkeameopnpinaaGreatDoor.bY
set_option maxRecDepth 100000
set_option maxHeartbeats 4000000
open Go.RowKit Go.Shelf bY Go
theorem Qr {G:j4}{s:Nat}(h:kC G=some s):s<G.length∧(G.getD s .empty).isFull=false:=by
 obtain⟨hk,hp,_⟩:=List.findIdx?_eq_some_iff_getElem.1 h;refine⟨hk, ?_⟩;rw[getD_in hk];simpa using hp
def Bq (gs:Tab)(x:Option (Nat×Nat)):Prop:=∀i s,x=some (i,s)→i<gs.length∧s<(gs.getD i []).length∧(aF gs i s).isFull=false
theorem SB {gs:Tab}{fr:Option (Nat×Nat)}(h:Bq gs fr){i:Nat}(hi:i<gs.length):Bq gs (iy fr i (gs.getD i [])):=by
 intro a b hab
 cases fr with
 |some x=>exact h a b hab
 |none=>
  unfold iy at hab;dsimp only at hab
  cases hg:kC (gs.getD i [])with
  |none=>rw[hg]at hab;cases hab
  |some s=>
   rw[hg]at hab;cases hab;exact⟨hi,Qr hg⟩
theorem IJ (gs:Tab)(key hash:Nat):∀(l:List Nat) (fr:Option (Nat×Nat)),(∀i∈l,i<gs.length)→Bq gs fr→Bq gs (jr gs key hash l fr).2.1
 | [],_,_,h=>h
 |i::is,fr,hl,h=>by
  have h1:=SB h (hl i (by simp));have ih:=IJ gs key hash is _ (fun x hx=>hl x (by simp[hx])) h1;rw[jr]
  cases gI (gs.getD i []) key hash with
  |some s=>exact h1
  |none=>
   cases dF (gs.getD i [])with
   |true=>exact h1
   |false=>exact ih
theorem walk_lt {h n i:Nat}(hn:0<n)(hi:i∈walk h n):i<n:=by
 obtain⟨j,_,rfl⟩:=List.mem_map.1 hi;exact Nat.mod_lt _ hn
theorem xX (gs:Tab)(hn:0<gs.length)(key hash:Nat):Bq gs (aI gs key hash).2.1:=by
 rw[wU];exact IJ gs key hash _ none (fun i hi=>walk_lt hn hi) (fun _ _ h=>by cases h)
theorem tH {gs:Tab}{key hash i s:Nat}(h:(aI gs key hash).1=some (i,s)):∃e,aF gs i s= .full e∧e.key=key∧i<gs.length∧s<(gs.getD i []).length:=by
 obtain⟨e,h1,h2,_⟩:=EW h;have:=jI (gs:=gs) (i:=i) (s:=s) (by rw[h1];simp);exact⟨e,h1,h2,this⟩
end Go.Proofs.YtgkeameopnpinaaGreatDoor.bY
