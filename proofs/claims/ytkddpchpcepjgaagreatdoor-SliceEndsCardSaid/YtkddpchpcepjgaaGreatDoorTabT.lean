/- A table's Seek by its contract. -/
import Derived.Test.YtkddpchpcepjgaaGreatDoorTabS
namespace Go.Proofs.YtkddpchpcepjgaaGreatDoor
set_option maxRecDepth 100000
set_option maxHeartbeats 4000000
open Go.RowKit Go.Shelf cu Go
variable {S : List Nat} {X Y w w' : World} {row : Option Nat} {t : TypeId} {n : Nat}
attribute [local go_sem] k9
def fF (a c:bE):Nat->bE
 |0=>a
 |k+1=>jN (fF a c k) c
theorem Mod.cell_ (h:Mod S w w'){p:Addr}(hp:p.block<w.heap.size)(hs:p.block∉S):w'.cell? p=w.cell? p:=World.cell?_of_block (w:=w) (h.block p.block hp hs)
theorem jG {B:Nat}(h:Mod S w w')(hS:∀k,k∈S->k<B):KeepsFrom B w w':=⟨h.size,λk o hB hk _=>(h.block k (qi.1 hk).1 (λhh=>absurd (hS k hh) (by omega))).trans hk⟩
theorem oz {n₀ n₁:Nat}{T:List Nat}{A B:World}(h:aZ n₀ S A B)(hn:n₁<=n₀)(hS:∀k,k<n₁->k∈S->k∈T):aZ n₁ T A B:=⟨h.os,h.tape,h.output,h.size,λk hk hT=>h.block k (by omega) (λhh=>hT (hS k hk hh))⟩
theorem Bd {g:Nat}{cs:Array Value}(h:aj X g t cs)(hg:X.grownBy Y row)(hr:∀r,row=some r->∃o:Obj,X.heap[r]?=some o/\o.isCells=false):aj Y g t cs:=by
 refine(hg.block g h.lt (λe=> ?_)).trans h;obtain⟨o,ho,hc⟩:=hr g e.symm;rw[show X.heap[g]?=_ from h]at ho;cases ho;cases hc
theorem Fu {mb:Nat}{pre post:List Value}{mo:Nat}{a l:bE}{m:Int}(h:Met X mb t pre post mo a l m)(hg:X.grownBy Y row)(hr:∀r,row=some r->∃o:Obj,X.heap[r]?=some o/\o.isCells=false):Met Y mb t pre post mo a l m:=⟨h.len,Bd h.blk hg hr⟩
def bW (x:Option (Nat×Nat)):Int:=match x with
 |some y=>(y.2:Int)
 |none=> -1
def eF (tb key hash:Nat)(ap:Option Addr)(as_:Int)(fp:Option Addr)(fs:Int):Array Value:= #[pQ tb,nU key,nU hash,.pointer ap,.int .i64 as_,.pointer fp,.int .i64 fs]
def iY (gb:Nat)(x:Option (Nat×Nat))(p:Option Addr):Prop:=∀i s,x=some (i,s)->p=some ⟨gb,i*25,none⟩
def vals {n:Nat}(pre:List (Fin n)):List Nat:=pre.map Fin.val
theorem zI (pre:List (Fin n))(x:Fin n):vals (pre++[x])=vals pre++[x.val]:=by simp[vals]
def xR (gs:Tab)(key hash i:Nat):Option (Nat×Nat):=(iL (gs.getD i []) key hash).map λs=>(i,s)
theorem WV {gs:Tab}{key hash:Nat}{pre:List (Fin n)}{x:Fin n}{j:Nat}(hj:vals (pre++[x])=(walk (hash/128) gs.length).take j)(h:∀y∈pre,Passed gs key hash y.val)(he:iL (gs.getD x.val []) key hash≠none\/dP (gs.getD x.val [])=true):aJ gs key hash=(xR gs key hash x.val,gy gs (vals (pre++[x])),(pre++[x]).length):=by
 have hw:vals pre++x.val::(walk (hash/128) gs.length).drop j=walk (hash/128) gs.length:=by
  have:=JP j (walk (hash/128) gs.length);rw[<-hj,zI,qe]at this;exact this
 have hp:∀i∈vals pre,Passed gs key hash i:=λi hi=>by
  obtain⟨y,hy,rfl⟩:=Z3.1 hi;exact h y hy
 have hlen:(vals pre++[x.val]).length=(pre++[x]).length:=by simp[vals]
 unfold xR;rw[zI,<-hlen]
 cases hf:iL (gs.getD x.val []) key hash with
 |some s=>exact Z9 hw hp hf
 |none=>
  rcases he with he|he
  ·exact absurd hf he
  ·exact WU hw hp hf he
theorem tF (tb gb key hash:Nat)(T:aC)(mb:Nat)(mt:TypeId)(iI fG:List Value)(mo:Nat)(a0 l0:bE)(m:Int)(c:bE)(w:World)(h:TabAt w tb gb T)(hP:Pw T.gs.length)(h64:hash<18446744073709551616)(hM:Met w mb mt iI fG mo a0 l0 m)(hmt:mb≠tb)(iC:mb≠gb)(hT:gW w)(hz:16 ≠mb):
  Calls Tryz.prog 120 #[bT tb,aI (some ⟨mb,mo,none⟩) c,nU key,nU hash] w λe w'=>∃ap fp,e= .returned (bP tb key hash ap (bW (aJ T.gs key hash).1) fp (bW (aJ T.gs key hash).2.1))/\
   (∀i s,(aJ T.gs key hash).1=some (i,s)->ap=some ⟨gb,i*25,none⟩)/\(∀i s,(aJ T.gs key hash).2.1=some (i,s)->fp=some ⟨gb,i*25,none⟩)/\
   Met w' mb mt iI fG mo (fF a0 c (aJ T.gs key hash).2.2) (fF l0 c (aJ T.gs key hash).2.2) m/\Mod [mb] w w':=by
 obtain⟨W,hW,hB,hA,hL,hK,hH,hR⟩:=qX5 w 172 #[pQ tb] 153 #[.pointer (some ⟨mb,mo,none⟩),.int .i64 c.p,.int .i64 c.v,.int .i64 c.u] 37 #[nU key] 37 #[nU hash] 222 #[.pointer none,.int .u64 0,.int .u64 0,.pointer none,.int .i64 0,.pointer none,.int .i64 0];have ni:=h.below hB;have hMW:=hM.below hB;have HW:=qd hW;have HB:=qd hB;have hg:=qt w _ (hT 0 (by omega));have htl:=h.aS;have hgl:=h.aT;have hml:=hM.lt;unfold bT aI bP;clear hW hB h hM;refine(vu (n:=10)).1 ?_
 have h1:1<=10:=by omega
 refine mD Tryz.func120 rfl trivial rfl ?_;simp only[Tryz.ntmps120,xn,ZS,yv,Nat.reduceAdd,Nat.reduceSub,j0,j7,xo,JS,ya,yb];refine VC.2 ?_;go_upto_region 1 with fail;rw[<-HW.o];have ca0:=hA.cell 0;simp only[zr,zc]at ca0;have ck0:=hK.cell 0;simp only[zr,zc]at ck0;have ch0:=hH.cell 0;simp only[zr,zc]at ch0;go_upto_region 2 with fail;have hSp:=aj.new W 222 #[pQ tb,nU key,nU hash,.pointer none,.int .i64 (-1),.pointer none,.int .i64 (-1)];have hBW:=(Below.refl W.heap.size W).alloc (zb _) (.cells #[pQ tb,nU key,nU hash,.pointer none,.int .i64 (-1),.pointer none,.int .i64 (-1)] 222);obtain⟨W1,hW1⟩:∃W1,W1=W.alloc (.cells #[pQ tb,nU key,nU hash,.pointer none,.int .i64 (-1),.pointer none,.int .i64 (-1)] 222):=⟨_,rfl⟩;rw[<-hW1]at hSp hBW|-;have HW1:=qd hW1;clear hW1;have hT1:=ni.below hBW;have hM1:=hMW.below hBW;have ht:=aA hBW ca0;have hh:=aA hBW ch0;have hc:=hT1.cells.1;have Bf:Below w.heap.size w W1:=bN hBW HB.o;have hlR:=hR.lt;have ahx:=hSp.lt
 refine rT (λ(w':World)=>w'.cell? ⟨w.heap.size+1+1+1,0,none⟩=some (nU hash)/\w'.cell? ⟨w.heap.size,0,none⟩=some (pQ tb)/\w'.cell? ⟨tb,0,none⟩=some (.slice (some ⟨gb,0,none⟩) T.gs.length T.gs.length)) [] ?_;have hHeld:=(⟨hh,ht,hc⟩:_/\_/\_);refine vT 0 rfl ?_;refine vT 2 rfl ?_;refine vW 3 rfl ?_;refine vW 4 rfl ?_;refine vT 5 rfl ?_;refine vW 6 rfl ?_;refine nT 1 rfl λK hK=> ?_;go_simp;refine(ZB hash _).mono ?_;rintro e w1 ⟨rfl,rfl⟩;go_wp2_with fail;have hHeld:=(⟨hh,ht,hc⟩:_/\_/\_);refine kO hK ?_;clear hK K;refine nT 7 rfl λK hK=> ?_;go_simp;refine(Uy (hash/128) T.gs.length _).mono ?_;rintro e w1 ⟨rfl,hw1⟩;have hb1:Below W1.heap.size W1 w1:=hw1▸(((Below.refl W1.heap.size W1).drew).alloc (zb _) _).alloc (by simp) _;have yI:aj w1 W1.heap.size 37 #[.int .u64 ((hash/128:Nat):Int)]:=hw1▸(aj.new W1.drew _ _).alloc _
 have hBg:aj w1 (W1.heap.size+1) 3 #[nI T.gs.length]:=by rw[<-hw1];have h0:=aj.new (W1.drew.alloc (.cells #[.int .u64 ((hash/128:Nat):Int)] 37)) 3 #[nI T.gs.length];rw[show(W1.drew.alloc (.cells #[.int .u64 ((hash/128:Nat):Int)] 37)).heap.size=W1.heap.size+1 by simp]at h0;exact h0
 clear hw1;go_wp2_with fail;replace hh:=aA hb1 hh;replace ht:=aA hb1 ht;replace hc:=aA hb1 hc;have hHeld:=(⟨hh,ht,hc⟩:_/\_/\_);refine kO hK ?_;clear hK K;refine aV (by kernel_rfl) ?_ _;go_wp2_with fail;refine(VC (n:=10)).1 ?_;have hA1:=(hA.below hBW hA.lt).below hb1 (hA.below hBW hA.lt).lt;have hL1:=(hL.below hBW hL.lt).below hb1 (hL.below hBW hL.lt).lt;have hK1:=(hK.below hBW hK.lt).below hb1 (hK.below hBW hK.lt).lt;have hH1:=(hH.below hBW hH.lt).below hb1 (hH.below hBW hH.lt).lt;have uL:=(hR.below hBW hR.lt).below hb1 (hR.below hBW hR.lt).lt;have hTw:=hT1.below hb1;have adY:gW w1:=λi hi=>((Bf.trans (hb1.mono Bf.size)).cell (p:=⟨16,qD i,none⟩) hg).trans (hT i hi);have hbl:=hb1.size
 have hgs:16 <w1.heap.size:=by have:=Bf.size;omega
 refine wpIn_rangeFunc_ownH rfl h1 (gf:=197) (lb:= #[.pointer (some ⟨W1.heap.size+1,0,none⟩),pQ W1.heap.size]) rfl trivial (enters_of Tryz.func197 (by kernel_rfl) rfl)
  (Uz (10-1) (by omega) (W1.heap.size+1) W1.heap.size w1.heap.size [W.heap.size,mb] (hash/128) T.gs.length (by omega) hP w1 hBg.lt (by simp;omega) yI.lt (zb _) (hBg.cell 0) (yI.cell 0)) dW (yA (zb _)) (Below.refl _ _) (λ_=>rfl)
  (λpre V=>((∃fp,aj V W.heap.size 222 (eF tb key hash none (-1) fp (bW (gy T.gs (vals pre))))/\iY gb (gy T.gs (vals pre)) fp)/\Met V mb mt iI fG mo (fF a0 c pre.length) (fF l0 c pre.length) m/\∀y∈pre,Passed T.gs key hash y.val)/\aZ w1.heap.size [W.heap.size,mb] w1 V)
  (λcd pre V=>(cd= .ret/\∃pre' x ap fp,pre=pre'++[x]/\(∀y∈pre',Passed T.gs key hash y.val)/\(iL (T.gs.getD x.val []) key hash≠none\/dP (T.gs.getD x.val [])=true)/\
   aj V (w.heap.size+1+1+1+1) 222 (eF tb key hash ap (bW (xR T.gs key hash x.val)) fp (bW (gy T.gs (vals pre))))/\iY gb (xR T.gs key hash x.val) ap/\iY gb (gy T.gs (vals pre)) fp/\
   Met V mb mt iI fG mo (fF a0 c pre.length) (fF l0 c pre.length) m)/\aZ w.heap.size [mb] w V)
  (OwnFrom.and (λ_ X Y row hs hg hr=>by
   obtain⟨⟨fp,h2,h3⟩,h4,h5⟩:=hs
   exact⟨⟨fp,Bd h2 hg (λr e=>(hr r e).2),h3⟩,Fu h4 hg (λr e=>(hr r e).2),h5⟩) (rz (zb _) (zb _)))
  (λcd=>OwnFrom.and (λ_ X Y row hs hg hr=>by
   obtain⟨h0,pre',x,ap,fp,h2,h3,h4,h5,h6,h7,h8⟩:=hs
   exact⟨h0,pre',x,ap,fp,h2,h3,h4,Bd h5 hg (λr e=>(hr r e).2),h6,h7,Fu h8 hg (λr e=>(hr r e).2)⟩) (rz (zb _) (by have:=Bf.size;omega)))
  ⟨⟨⟨none,hSp.below hb1 hSp.lt,λi s he=>by cases he⟩,hM1.below hb1,by simp⟩,aZ.refl _ _ _⟩
  (λx a' _=>a'={tmps:= #[pQ tb,.agg #[.pointer (some ⟨mb,mo,none⟩),.int .i64 c.p,.int .i64 c.v,.int .i64 c.u],nU key,nU hash,pQ w.heap.size,.pointer (some ⟨w.heap.size+1,0,none⟩),.pointer (some ⟨w.heap.size+1+1,0,none⟩),.pointer (some ⟨w.heap.size+1+1+1,0,none⟩),.pointer (some ⟨w.heap.size+1+1+1+1,0,none⟩),pQ W.heap.size,nI x.val,undef,undef,pQ tb,nU key,nU hash,.agg #[.pointer none,.int .i64 (-1)],.agg #[.pointer none,.int .i64 (-1)],.agg #[pQ tb,nU key,nU hash,.pointer none,.int .i64 (-1),.pointer none,.int .i64 (-1)],nU hash,.int .u64 ((hash:Int)/128),pQ tb,pQ tb,pQ tb,.slice (some ⟨gb,0,none⟩) T.gs.length T.gs.length,nI T.gs.length,.func (.func 197) #[] #[.pointer (some ⟨W1.heap.size+1,0,none⟩),pQ W1.heap.size],nI x.val,undef,undef,undef,undef,undef,undef,undef,undef,undef,undef,undef,undef,undef,undef,undef,undef,undef,undef,undef,undef,undef,undef,undef,undef,undef,undef,undef,undef,undef,undef,undef,undef],defers:=[]})
  (λ_ _ _ _ _ _ hs _ _=>hs) ?assign ?body ?done ?stop
 case assign=>
  rintro lp pre x V K hi hK
  gi_wp2
  exact hK _ _ (KeepsFrom.refl _ _) (aZ.refl _ _ _) hi rfl
 case body=>
  rintro lp pre x a' V hl ⟨r,hr⟩ ⟨⟨⟨fp,DW,hfp⟩,SC,hps⟩,pR⟩ rfl hlt;have hAV:=pR.blk hA1 (by omega) (by simp;omega);have hLV:=pR.blk hL1 (by omega) (by simp;omega);have hTV:=hTw.keep pR (by omega) (by omega) (by simp;omega) (by simp;omega);have hxn:x.val<T.gs.length:=x.isLt;have OT:=hP.le
  have hxi:(x.val:Int)<(T.gs.length:Int):=by omega
  have hx0:(0:Int)<=(x.val:Int):=by omega
  have DT:=pR.size;have t0:=hAV.cell 0;simp only[zr,zc]at t0;obtain⟨LA,LB,LC,LD⟩:=hLV.c4;have hc:=hTV.cells.1;have HS:=qd (λ(wX:World) (M:Mod [mb] V wX)=>show(λ(w':World)=>w'.cell? ⟨w.heap.size,0,none⟩=some (pQ tb)/\w'.cell? ⟨tb,0,none⟩=some (.slice (some ⟨gb,0,none⟩) T.gs.length T.gs.length)/\w'.cell? ⟨w.heap.size+1,0,none⟩=some (.pointer (some ⟨mb,mo,none⟩))/\w'.cell? ⟨w.heap.size+1,1,none⟩=some (.int .i64 c.p)/\w'.cell? ⟨w.heap.size+1,2,none⟩=some (.int .i64 c.v)/\w'.cell? ⟨w.heap.size+1,3,none⟩=some (.int .i64 c.u)) wX from⟨(M.cell_ (p:=⟨w.heap.size,0,none⟩) (by show w.heap.size<_;omega) (by simp;omega)).trans t0,(M.cell_ (p:=⟨tb,0,none⟩) (by show tb<_;omega) (by simp;omega)).trans hc,(M.cell_ (p:=⟨w.heap.size+1,0,none⟩) (by show w.heap.size+1<_;omega) (by simp;omega)).trans LA,(M.cell_ (p:=⟨w.heap.size+1,1,none⟩) (by show w.heap.size+1<_;omega) (by simp;omega)).trans LB,(M.cell_ (p:=⟨w.heap.size+1,2,none⟩) (by show w.heap.size+1<_;omega) (by simp;omega)).trans LC,(M.cell_ (p:=⟨w.heap.size+1,3,none⟩) (by show w.heap.size+1<_;omega) (by simp;omega)).trans LD⟩)
  gi_wp2_with fail
  refine af0 (λa' w2=>∃vb,a'={tmps:= #[pQ tb,.agg #[.pointer (some ⟨mb,mo,none⟩),.int .i64 c.p,.int .i64 c.v,.int .i64 c.u],nU key,nU hash,pQ w.heap.size,.pointer (some ⟨w.heap.size+1,0,none⟩),.pointer (some ⟨w.heap.size+1+1,0,none⟩),.pointer (some ⟨w.heap.size+1+1+1,0,none⟩),.pointer (some ⟨w.heap.size+1+1+1+1,0,none⟩),pQ W.heap.size,nI x.val,pQ vb,undef,pQ tb,nU key,nU hash,.agg #[.pointer none,.int .i64 (-1)],.agg #[.pointer none,.int .i64 (-1)],.agg #[pQ tb,nU key,nU hash,.pointer none,.int .i64 (-1),.pointer none,.int .i64 (-1)],nU hash,.int .u64 ((hash:Int)/128),pQ tb,pQ tb,pQ tb,.slice (some ⟨gb,0,none⟩) T.gs.length T.gs.length,nI T.gs.length,.func (.func 197) #[] #[.pointer (some ⟨W1.heap.size+1,0,none⟩),pQ W1.heap.size],nI x.val,pQ tb,pQ tb,pQ tb,.slice (some ⟨gb,0,none⟩) T.gs.length T.gs.length,nI x.val,.pointer (some ⟨gb,x.val*25,none⟩),.agg #[.pointer (some ⟨mb,mo,none⟩),.int .i64 c.p,.int .i64 c.v,.int .i64 c.u],.agg #[.pointer (some ⟨gb,x.val*25,none⟩)],undef,undef,undef,undef,undef,undef,undef,undef,undef,undef,undef,undef,undef,undef,undef,undef,undef,undef,undef,undef,undef,undef,undef,undef],defers:=[]}/\aj w2 vb 211 #[.pointer (some ⟨gb,x.val*25,none⟩)]/\V.heap.size<=vb/\Met w2 mb mt iI fG mo (jN (fF a0 c pre.length) c) (jN (fF l0 c pre.length) c) m/\Mod [mb] V w2) ?_ ?_
  ·refine Cb (λ(w':World)=>w'.cell? ⟨w.heap.size,0,none⟩=some (pQ tb)/\w'.cell? ⟨tb,0,none⟩=some (.slice (some ⟨gb,0,none⟩) T.gs.length T.gs.length)/\w'.cell? ⟨w.heap.size+1,0,none⟩=some (.pointer (some ⟨mb,mo,none⟩))/\w'.cell? ⟨w.heap.size+1,1,none⟩=some (.int .i64 c.p)/\w'.cell? ⟨w.heap.size+1,2,none⟩=some (.int .i64 c.v)/\w'.cell? ⟨w.heap.size+1,3,none⟩=some (.int .i64 c.u)) [] (by kernel_rfl) (by kernel_rfl) (by rintro⟨_,_,h⟩;exact h) ?_
   try (change cO _ _ _ _ _ _ _ _ _ (World.drew _))
   have hHeld:=(⟨t0,hc,LA,LB,LC,LD⟩:_/\_/\_/\_/\_/\_);refine vT 0 rfl ?_;refine vW 1 rfl ?_;refine vW 2 rfl ?_;refine vT 3 rfl ?_;refine vW 4 rfl ?_;refine vW 5 rfl ?_;refine vT 6 rfl ?_;refine pairT (i:=7) (j:=8) (o:=⟨some 35,_,_,_,_,_⟩) (o':=⟨some 11,_,_,_,_,_⟩) rfl rfl (by kernel_rfl) (λK hK=> ?_) (λK hK=> ?_)
   ·go_simp;refine(xP ⟨gb,x.val*25,none⟩ mb mt iI fG mo _ _ m c _ (SC.below (Below.refl _ _).drew)).mono ?_;rintro e w2 ⟨rfl,hM2,hm2⟩;simp only[bG];go_wp2_with fail;have M7:Mod [mb] V w2:=(Mod.drewN [mb] V 1).then hm2;refine hK.o _ _ (λ_=>HS.o _ M7) ?_;clear hK K
    try simp only[pt]
    refine nT 8 rfl λK hK=> ?_;go_simp;have M8:Mod [mb] V (w2.alloc (.cells #[.pointer none] 211)):=M7.alloc _;have DX:=aj.new w2 211 #[.pointer none];have SE:=hM2.below ((Below.refl w2.heap.size w2).alloc (zb _) (.cells #[.pointer none] 211));have af3:=M7.size;obtain⟨w3,hw3⟩:∃w3,w3=w2.alloc (.cells #[.pointer none] 211):=⟨_,rfl⟩;rw[<-hw3]at M8 DX SE|-;clear hw3;refine hK.o _ _ (λ_=>HS.o _ M8) ?_;clear hK K
    try simp only[pt]
    refine nT 9 rfl λK hK=> ?_;have n0:=DX.cell 0;simp only[zr,zc]at n0;have nf:=DX.frozen 0;go_simp;have M9:=M8.ak (b:=w2.heap.size) (.inr (by omega)) 0 (.pointer (some ⟨gb,x.val*25,none⟩));refine hK.o _ _ (λ_=>HS.o _ M9) ?_;clear hK K
    try simp only[pt]
    refine aV (by kernel_rfl) ?_ _;exact⟨w2.heap.size,rfl,DX.ak 0 _,af3,⟨SE.len,SE.blk.far (p:=⟨w2.heap.size,0,none⟩) (by show mb≠w2.heap.size;omega) _⟩,M9⟩
   ·go_simp;have M8:Mod [mb] V (V.alloc (.cells #[.pointer none] 211)).drew:=((Mod.refl [mb] V).alloc _).then (Mod.drewN [mb] _ 1);have DX:aj (V.alloc (.cells #[.pointer none] 211)).drew V.heap.size 211 #[.pointer none]:=(aj.new V _ _).drew;have SE:=SC.below (((Below.refl V.heap.size V).alloc (zb _) (.cells #[.pointer none] 211)).drew);obtain⟨w3,hw3⟩:∃w3,w3=(V.alloc (.cells #[.pointer none] 211)).drew:=⟨_,rfl⟩;rw[<-hw3]at M8 DX SE|-;clear hw3;refine hK.o _ _ (λ_=>HS.o _ M8) ?_;clear hK K
    try simp only[pt]
    refine nT 7 rfl λK hK=> ?_;go_simp;refine(xP ⟨gb,x.val*25,none⟩ mb mt iI fG mo _ _ m c _ SE).mono ?_;rintro e w2 ⟨rfl,hM2,hm2⟩;simp only[bG];go_wp2_with fail;have M7:Mod [mb] V w2:=M8.then hm2;replace DX:=DX.mod hm2 (by simp;omega);refine hK.o _ _ (λ_=>HS.o _ M7) ?_;clear hK K
    try simp only[pt]
    refine nT 9 rfl λK hK=> ?_;have n0:=DX.cell 0;simp only[zr,zc]at n0;have nf:=DX.frozen 0;go_simp;have M9:=M7.ak (b:=V.heap.size) (.inr (zb _)) 0 (.pointer (some ⟨gb,x.val*25,none⟩));refine hK.o _ _ (λ_=>HS.o _ M9) ?_;clear hK K
    try simp only[pt]
    refine aV (by kernel_rfl) ?_ _;exact⟨V.heap.size,rfl,DX.ak 0 _,zb _,⟨hM2.len,hM2.blk.far (p:=⟨V.heap.size,0,none⟩) (by show mb≠V.heap.size;omega) _⟩,M9⟩
  ·rintro a' w2 ⟨vb,rfl,WW,hvb,hM2,hm2⟩;simp only[Array.mk.injEq];have hK2:aZ w1.heap.size [W.heap.size,mb] w1 w2:=dW pR ((hm2.more (T:=[W.heap.size,mb]) (by simp)).xQ DT);have aac:aZ w1.heap.size [W.heap.size,mb] V w2:=(hm2.more (T:=[W.heap.size,mb]) (by simp)).xQ DT;have kR:=hTV.mod hm2 (by simp;omega) (by simp;omega);have hS2:=DW.mod hm2 (by simp;omega);have aad:=hK2.blk hK1 (by omega) (by simp;omega);have aae:=hK2.blk hH1 (by omega) (by simp;omega);have hR2:=hK2.blk uL (by omega) (by simp;omega);have aaf:gW w2:=hK2.tz hgs (by simp;omega) adY;have aag:KeepsFrom w1.heap.size V w2:=jG hm2 (by simp;omega);have ahy:w1.heap.size<=vb:=qf DT hvb;cases hfr:gy T.gs (vals pre)
   case' some y=>
    have hfr2:gy T.gs (vals (pre++[x]))=some y:=by rw[zI,vO,hfr];rfl
    rw[hfr]at hS2 hfp;obtain⟨wq,hwq⟩:∃wq,wq=w2:=⟨_,rfl⟩;obtain⟨xK,Ky⟩:∃xK,xK=fp:=⟨_,rfl⟩;rw[<-hwq]at hS2 WW aad aae hR2 kR aaf aag hK2 aac hM2|-;rw[<-Ky]at hS2 hfp;clear hwq Ky hm2;have DY:=hS2;have LG:iY gb (gy T.gs (vals (pre++[x]))) xK:=hfr2▸hfp;have LH:=WW;have hKq:=aad;have OU:=hR2;have WX:=hM2;have DZ:=hK2;have aah:=aac;have aai:=aag;have hHq:=aae;have hTq:=kR;have adZ:=aaf
    have hsl:¬bW (some y)<0:=by simp only[bW];omega
    generalize hsv:bW (some y)=sv at*
    have hsq:bW (gy T.gs (vals (pre++[x])))=sv:=by rw[hfr2];exact hsv
    unfold eF at DY;obtain⟨p0,p1,p2,p3,p4,p5,p6⟩:=DY.c7
   case' none=>
    rw[hfr]at hS2;simp only[eF,bW]at hS2;obtain⟨p0,p1,p2,p3,p4,p5,p6⟩:=hS2.c7;have v0:=WW.cell 0;simp only[zr,zc]at v0;obtain⟨q0,q1,q2,q3,q4,q5,q6⟩:=hS2.f7;have OV:=qd (Z5 gb _ _ _ (x.val*25) _ w2.drew ((kR.below (Below.refl _ _).drew).group x.val hxn) (λi hi=>aaf i hi));obtain⟨fv,hfv⟩:∃fv,fv=uZ (mg (T.gs.getD x.val [])):=⟨_,rfl⟩;rw[<-hfv]at OV;have Hfv:=qd hfv;clear hfv
    gi_wp2_with fail
    refine Cb (λ(w':World)=>w'.cell? ⟨vb,0,none⟩=some (.pointer (some ⟨gb,x.val*25,none⟩))) [5] (by kernel_rfl) (by kernel_rfl) (by rintro⟨_,_,h⟩;exact h) ?_
    try (change cO _ _ _ _ _ _ _ _ _ (World.drew _))
    have hHeld:=v0;refine vT 0 rfl ?_;refine vT 1 rfl ?_;refine nT 2 rfl λK hK=> ?_;go_simp;refine(OV.o).mono ?_;rintro e w3 ⟨rfl,hb3⟩;replace hb3:Below w2.heap.size w2 w3:=bN hb3 (Below.refl _ _).drew;go_wp2_with fail;have hHeld:=show(λ(w':World)=>w'.cell? ⟨vb,0,none⟩=some (.pointer (some ⟨gb,x.val*25,none⟩))) _ from aA hb3 v0;refine kO hK ?_;clear hK K;refine vW 3 rfl ?_;refine vW 4 rfl ?_;refine nT 5 rfl λK hK=> ?_;have p5n:=aA hb3 p5;have p6n:=aA hb3 p6;have q5n:=(hS2.below hb3 hS2.lt).frozen 5;have q6n:=(hS2.below hb3 hS2.lt).frozen 6;go_simp;refine kO hK ?_;clear hK K;refine aV (by kernel_rfl) ?_ _
    have hfr2:gy T.gs (vals (pre++[x]))=(mg (T.gs.getD x.val [])).map λs=>(x.val,s):=by rw[zI,vO,hfr];rfl
    have ad1:bW (gy T.gs (vals (pre++[x])))=uZ (mg (T.gs.getD x.val [])):=by rw[hfr2];cases mg (T.gs.getD x.val [])<;>rfl
    obtain⟨wq,hwq⟩:∃wq,wq=(w3.setCell ⟨W.heap.size,5,none⟩ (.pointer (some ⟨gb,x.val*25,none⟩))).setCell ⟨W.heap.size,6,none⟩ (.int .i64 fv):=⟨_,rfl⟩;rw[<-hwq];have Mq:Mod [W.heap.size] w2 wq:=hwq▸(((Mod.of_below hb3 [W.heap.size]).ak (.inl (by simp)) _ _).ak (.inl (by simp)) _ _)
    have UF:aj wq W.heap.size 222 (eF tb key hash none (-1) (some ⟨gb,x.val*25,none⟩) fv):=by
     have:=((hS2.below hb3 hS2.lt).ak 5 (.pointer (some ⟨gb,x.val*25,none⟩))).ak 6 (.int .i64 fv);rw[hwq];simpa only[yW,XX,j8,eF]using this
    obtain⟨xK,Ky⟩:∃xK:Option Addr,xK=some ⟨gb,x.val*25,none⟩:=⟨_,rfl⟩;rw[<-Ky]at UF
    have LG:iY gb (gy T.gs (vals (pre++[x]))) xK:=λa b hab=>by
     rw[hfr2]at hab
     cases hg2:mg (T.gs.getD x.val [])with
     |none=>
      rw[hg2]at hab;cases hab
     |some s2=>
      rw[hg2]at hab;cases hab;exact Ky
    clear hwq Ky;have LH:=WW.mod Mq (by simp;omega);have hKq:=aad.mod Mq (by simp;omega);have hHq:=aae.mod Mq (by simp;omega);have OU:=hR2.mod Mq (by simp;omega);have WX:=hM2.mod Mq (by simp;omega);have hTq:=kR.mod Mq (by simp;omega) (by simp;omega);have ad2:=hK2.size;have DZ:=dW hK2 (oz (Mq.xQ (zb _)) ad2 (T:=[W.heap.size,mb]) (by simp;omega));have aah:=dW aac (oz (Mq.xQ (zb _)) ad2 (T:=[W.heap.size,mb]) (by simp;omega));have aai:=aag.trans (jG Mq (by simp;omega));have adZ:gW wq:=DZ.tz hgs (by simp;omega) adY;obtain⟨sv,aaj⟩:∃sv,sv=fv:=⟨_,rfl⟩;rw[<-aaj]at UF
    have hsq:bW (gy T.gs (vals (pre++[x])))=sv:=by rw[ad1,aaj];exact Hfv.o.symm
    clear aaj ad1;have DY:=UF;unfold eF at DY;clear UF hS2 hm2 Mq v0 WW;obtain⟨pz0,pz1,pz2,pz3,pz4,pz5,pz6⟩:=DY.c7
   all_goals
    have v0:=LH.cell 0;simp only[zr,zc]at v0;have kk0:=hKq.cell 0;simp only[zr,zc]at kk0;have hh0:=hHq.cell 0;simp only[zr,zc]at hh0;have Lp:=qd (vg (q:=7) (Z4 gb 215 (dG (T.gs.take x.val)) (dG (T.gs.drop (x.val+1))) (x.val*25) (T.gs.getD x.val []) wq (hTq.group x.val hxn) key hash h64 adZ))
    cases hf:iL (T.gs.getD x.val []) key hash with
    |some s=>
     rw[hf]at Lp;simp only[uZ]at Lp
     have hs0:(0:Int)<=(s:Int):=by omega
     gi_wp2_with fail
     refine⟨trivial,(CallsIn.inRound lp Lp.o).mono ?_⟩;rintro e w5 ⟨rfl,hb5⟩;have zF:=dW DZ (aZ.of_below (n₀:=w1.heap.size) (S:=[W.heap.size,mb]) (hb5.mono (by have:=DZ.size;omega)));have UG:=dW aah (aZ.of_below (n₀:=w1.heap.size) (S:=[W.heap.size,mb]) (hb5.mono (by have:=DZ.size;omega)));have xg:=aai.trans (jG (Mod.of_below hb5 []) (by simp));have hS5:=DY.below hb5 DY.lt;have d9:=OU.below hb5 OU.lt;have SF:=LH.below hb5 LH.lt;have SG:=WX.below hb5;have pV:=hTq.below hb5;obtain⟨s0,s1,s2,s3,s4,s5,s6⟩:=hS5.c7;obtain⟨sf0,sf1,sf2,sf3,sf4,sf5,sf6⟩:=hS5.f7;obtain⟨r0,r1,r2,r3,r4,r5,r6⟩:=d9.c7;obtain⟨rf0,rf1,rf2,rf3,rf4,rf5,rf6⟩:=d9.f7;have SH:=SF.cell 0;simp only[zr,zc]at SH;clear v0 kk0 hh0 hS5 SF hb5 DY LH OU WX;obtain⟨w6,nu⟩:∃w6,w6=((((((((w5.setCell ⟨W.heap.size,3,none⟩ (.pointer (some ⟨gb,x.val*25,none⟩))).setCell ⟨W.heap.size,4,none⟩ (nI s)).setCell ⟨w.heap.size+1+1+1+1,0,none⟩ (pQ tb)).setCell ⟨w.heap.size+1+1+1+1,1,none⟩ (nU key)).setCell ⟨w.heap.size+1+1+1+1,2,none⟩ (nU hash)).setCell ⟨w.heap.size+1+1+1+1,3,none⟩ (.pointer (some ⟨gb,x.val*25,none⟩))).setCell ⟨w.heap.size+1+1+1+1,4,none⟩ (nI s)).setCell ⟨w.heap.size+1+1+1+1,5,none⟩ (.pointer xK)).setCell ⟨w.heap.size+1+1+1+1,6,none⟩ (.int .i64 sv):=⟨_,rfl⟩
     have M6:Mod [W.heap.size,w.heap.size+1+1+1+1] w5 w6:=nu▸((((((((((Mod.refl [W.heap.size,w.heap.size+1+1+1+1] w5).ak (.inl (by simp)) _ _).ak (.inl (by simp)) _ _).ak (.inl (by simp)) _ _).ak (.inl (by simp)) _ _).ak (.inl (by simp)) _ _).ak (.inl (by simp)) _ _).ak (.inl (by simp)) _ _).ak (.inl (by simp)) _ _).ak (.inl (by simp)) _ _)
     have B6:aj w6 (w.heap.size+1+1+1+1) 222 (eF tb key hash (some ⟨gb,x.val*25,none⟩) (s:Int) xK sv):=by
      have:=(((((((((d9).far (p:=⟨W.heap.size,3,none⟩) (by show w.heap.size+1+1+1+1≠W.heap.size;omega) (.pointer (some ⟨gb,x.val*25,none⟩))).far (p:=⟨W.heap.size,4,none⟩) (by show w.heap.size+1+1+1+1≠W.heap.size;omega) (nI s)).ak 0 (pQ tb)).ak 1 (nU key)).ak 2 (nU hash)).ak 3 (.pointer (some ⟨gb,x.val*25,none⟩))).ak 4 (nI s)).ak 5 (.pointer xK)).ak 6 (.int .i64 sv);rw[nu];simpa only[yW,XX,j8,eF]using this
     have T6:=SG.mod M6 (by simp;omega);have K6:aZ w.heap.size [mb] w w6:=dW (dW (aZ.of_below (Bf.trans (hb1.mono Bf.size))) (oz zF (by omega) (by simp;omega))) (oz (M6.xQ (zb _)) (by have:=zF.size;have:=Bf.size;omega) (by simp;omega));have F6:KeepsFrom w1.heap.size V w6:=xg.trans (jG M6 (by simp;omega));have HE:=qd (And.intro B6 (And.intro T6 (And.intro K6 F6)));clear M6 B6 T6 K6 F6;have WY:=qd nu;clear nu
     gi_wp2
     rw[<-WY.o];exact⟨HE.o.2.2.2,⟨rfl,pre,x,some ⟨gb,x.val*25,none⟩,xK,rfl,hps,.inl (by rw[hf];simp),by rw[hsq,xR,hf];exact HE.o.1,λa b hab=>by rw[xR,hf]at hab;cases hab;rfl,LG,by rw[ZD];exact HE.o.2.1⟩,HE.o.2.2.1⟩
    |none=>
     rw[hf]at Lp;simp only[uZ]at Lp
     gi_wp2_with fail
     refine⟨trivial,(CallsIn.inRound lp Lp.o).mono ?_⟩;rintro e w4 ⟨rfl,hb4⟩;have hK4:=dW DZ (aZ.of_below (n₀:=w1.heap.size) (S:=[W.heap.size,mb]) (hb4.mono (by have:=DZ.size;omega)));have ad3:=dW aah (aZ.of_below (n₀:=w1.heap.size) (S:=[W.heap.size,mb]) (hb4.mono (by have:=DZ.size;omega)));have DU:=aai.trans (jG (Mod.of_below hb4 []) (by simp));have Da:=DY.below hb4 DY.lt;have oU:=OU.below hb4 OU.lt;have SI:=LH.below hb4 LH.lt;have Jo:=WX.below hb4;have SK:=hTq.below hb4;have SH:=SI.cell 0;simp only[zr,zc]at SH;have Db:=qd (vg (q:=7) (Z6 gb _ _ _ (x.val*25) _ w4 (SK.group x.val hxn)))
     cases ho':dP (T.gs.getD x.val [])with
     |true=>
      rw[ho']at Db;have ho:dP (T.gs.getD x.val [])=true:=ho'
      gi_wp2_with fail
      refine⟨trivial,(CallsIn.inRound lp Db.o).mono ?_⟩;rintro e w5 ⟨rfl,hb5⟩;have zF:=dW hK4 (aZ.of_below (n₀:=w1.heap.size) (S:=[W.heap.size,mb]) (hb5.mono (by have:=hK4.size;omega)));have UG:=dW ad3 (aZ.of_below (n₀:=w1.heap.size) (S:=[W.heap.size,mb]) (hb5.mono (by have:=hK4.size;omega)));have xg:=DU.trans (jG (Mod.of_below hb5 []) (by simp));have hS5:=Da.below hb5 Da.lt;have d9:=oU.below hb5 oU.lt;have SF:=SI.below hb5 SI.lt;have SG:=Jo.below hb5;have pV:=SK.below hb5;obtain⟨s0,s1,s2,s3,s4,s5,s6⟩:=hS5.c7;obtain⟨sf0,sf1,sf2,sf3,sf4,sf5,sf6⟩:=hS5.f7;obtain⟨r0,r1,r2,r3,r4,r5,r6⟩:=d9.c7;obtain⟨rf0,rf1,rf2,rf3,rf4,rf5,rf6⟩:=d9.f7;have SH:=SF.cell 0;simp only[zr,zc]at SH;clear v0 kk0 hh0 SH hS5 SF hb5 DY LH OU WX Da oU SI Jo;obtain⟨w6,nu⟩:∃w6,w6=((((((w5.setCell ⟨w.heap.size+1+1+1+1,0,none⟩ (pQ tb)).setCell ⟨w.heap.size+1+1+1+1,1,none⟩ (nU key)).setCell ⟨w.heap.size+1+1+1+1,2,none⟩ (nU hash)).setCell ⟨w.heap.size+1+1+1+1,3,none⟩ (.pointer none)).setCell ⟨w.heap.size+1+1+1+1,4,none⟩ (.int .i64 (-1))).setCell ⟨w.heap.size+1+1+1+1,5,none⟩ (.pointer xK)).setCell ⟨w.heap.size+1+1+1+1,6,none⟩ (.int .i64 sv):=⟨_,rfl⟩;have M6:Mod [W.heap.size,w.heap.size+1+1+1+1] w5 w6:=nu▸((((((((Mod.refl [W.heap.size,w.heap.size+1+1+1+1] w5).ak (.inl (by simp)) _ _).ak (.inl (by simp)) _ _).ak (.inl (by simp)) _ _).ak (.inl (by simp)) _ _).ak (.inl (by simp)) _ _).ak (.inl (by simp)) _ _).ak (.inl (by simp)) _ _)
      have B6:aj w6 (w.heap.size+1+1+1+1) 222 (eF tb key hash none (-1) xK sv):=by
       have:=(((((((d9).ak 0 (pQ tb)).ak 1 (nU key)).ak 2 (nU hash)).ak 3 (.pointer none)).ak 4 (.int .i64 (-1))).ak 5 (.pointer xK)).ak 6 (.int .i64 sv);rw[nu];simpa only[yW,XX,j8,eF]using this
      have T6:=SG.mod M6 (by simp;omega);have K6:aZ w.heap.size [mb] w w6:=dW (dW (aZ.of_below (Bf.trans (hb1.mono Bf.size))) (oz zF (by omega) (by simp;omega))) (oz (M6.xQ (zb _)) (by have:=zF.size;have:=Bf.size;omega) (by simp;omega));have F6:KeepsFrom w1.heap.size V w6:=xg.trans (jG M6 (by simp;omega));have HE:=qd (And.intro B6 (And.intro T6 (And.intro K6 F6)));clear M6 B6 T6 K6 F6;have WY:=qd nu;clear nu
      gi_wp2
      rw[<-WY.o];exact⟨HE.o.2.2.2,⟨rfl,pre,x,none,xK,rfl,hps,.inr ho,by rw[hsq,xR,hf];exact HE.o.1,(λa b hab=>by rw[xR,hf]at hab;cases hab),LG,by rw[ZD];exact HE.o.2.1⟩,HE.o.2.2.1⟩
     |false=>
      rw[ho']at Db
      gi_wp2_with fail
      refine⟨trivial,(CallsIn.inRound lp Db.o).mono ?_⟩;rintro e w5 ⟨rfl,hb5⟩;have zF:=dW hK4 (aZ.of_below (n₀:=w1.heap.size) (S:=[W.heap.size,mb]) (hb5.mono (by have:=hK4.size;omega)));have UG:=dW ad3 (aZ.of_below (n₀:=w1.heap.size) (S:=[W.heap.size,mb]) (hb5.mono (by have:=hK4.size;omega)));have xg:=DU.trans (jG (Mod.of_below hb5 []) (by simp));have hS5:=Da.below hb5 Da.lt;have d9:=oU.below hb5 oU.lt;have SF:=SI.below hb5 SI.lt;have SG:=Jo.below hb5;have pV:=SK.below hb5;have HPs:=qd (show∀y∈pre++[x],Passed T.gs key hash y.val from λy hy=>(Zs.1 hy).elim (hps y) (λe=>by simp at e;subst e;exact⟨hf,ho'⟩));have HL5:=qd (show Met w5 mb mt iI fG mo (fF a0 c (pre++[x]).length) (fF l0 c (pre++[x]).length) m from by rw[ZD];exact SG);have OW:=qd (show∃fp,aj w5 W.heap.size 222 (eF tb key hash none (-1) fp (bW (gy T.gs (vals (pre++[x])))))/\iY gb (gy T.gs (vals (pre++[x]))) fp from⟨xK,by rw[hsq];exact hS5,LG⟩);have HE:=qd (And.intro xg (And.intro UG zF));clear hps hf ho' SG hS5 xg UG zF
      gi_wp2
      exact⟨HE.o.1,HE.o.2.1,⟨OW.o,HL5.o,HPs.o⟩,HE.o.2.2⟩
 case done=>
  rintro D ys V hD hys ⟨⟨⟨fp,DW,hfp⟩,SC,hps⟩,pR⟩ rY
  have hse:aJ T.gs key hash=(none,gy T.gs (vals ys),ys.length):=by
   have:=Z8 (gs:=T.gs) (key:=key) (hash:=hash) (pre:=vals ys) hys (λi hi=>by
    obtain⟨y,hy,rfl⟩:=Z3.1 hi
    exact hps y hy)
   rw[this];simp[vals]
  have uM:=pR.blk uL (by omega) (by simp;omega);obtain⟨sv,aak⟩:∃sv,bW (gy T.gs (vals ys))=sv:=⟨_,rfl⟩;rw[aak]at DW;unfold eF at DW;have s0:=DW.cell 0;have s1:=DW.cell 1;have s2:=DW.cell 2;have s3:=DW.cell 3;have s4:=DW.cell 4;have s5:=DW.cell 5;have s6:=DW.cell 6;have r0:=uM.cell 0;have r1:=uM.cell 1;have r2:=uM.cell 2;have r3:=uM.cell 3;have r4:=uM.cell 4;have r5:=uM.cell 5;have r6:=uM.cell 6;simp only[gl]at s0 s1 s2 s3 s4 s5 s6 r0 r1 r2 r3 r4 r5 r6;obtain⟨f0,f1,f2,f3,f4,f5,f6⟩:=uM.f7;obtain⟨w6,nu⟩:∃w6,w6=((((((V.setCell ⟨w.heap.size+1+1+1+1,0,none⟩ (pQ tb)).setCell ⟨w.heap.size+1+1+1+1,1,none⟩ (nU key)).setCell ⟨w.heap.size+1+1+1+1,2,none⟩ (nU hash)).setCell ⟨w.heap.size+1+1+1+1,3,none⟩ (.pointer none)).setCell ⟨w.heap.size+1+1+1+1,4,none⟩ (.int .i64 (-1))).setCell ⟨w.heap.size+1+1+1+1,5,none⟩ (.pointer fp)).setCell ⟨w.heap.size+1+1+1+1,6,none⟩ (.int .i64 sv):=⟨_,rfl⟩;have M6:Mod [w.heap.size+1+1+1+1] V w6:=nu▸((((((((Mod.refl [w.heap.size+1+1+1+1] V).ak (.inl (by simp)) _ _).ak (.inl (by simp)) _ _).ak (.inl (by simp)) _ _).ak (.inl (by simp)) _ _).ak (.inl (by simp)) _ _).ak (.inl (by simp)) _ _).ak (.inl (by simp)) _ _)
  have O6:KeepsOthers V w6:=nu▸((((((((KeepsOthers.refl V).trans (KeepsOthers.setCell _ ⟨w.heap.size+1+1+1+1,0,none⟩ (pQ tb))).trans (KeepsOthers.setCell _ ⟨w.heap.size+1+1+1+1,1,none⟩ (nU key))).trans (KeepsOthers.setCell _ ⟨w.heap.size+1+1+1+1,2,none⟩ (nU hash))).trans (KeepsOthers.setCell _ ⟨w.heap.size+1+1+1+1,3,none⟩ (.pointer none))).trans (KeepsOthers.setCell _ ⟨w.heap.size+1+1+1+1,4,none⟩ (.int .i64 (-1)))).trans (KeepsOthers.setCell _ ⟨w.heap.size+1+1+1+1,5,none⟩ (.pointer fp))).trans (KeepsOthers.setCell _ ⟨w.heap.size+1+1+1+1,6,none⟩ (.int .i64 sv)))
  have B6:aj w6 (w.heap.size+1+1+1+1) 222 (eF tb key hash none (-1) fp sv):=by
   have:=(((((((uM).ak 0 (pQ tb)).ak 1 (nU key)).ak 2 (nU hash)).ak 3 (.pointer none)).ak 4 (.int .i64 (-1))).ak 5 (.pointer fp)).ak 6 (.int .i64 sv);rw[nu];simpa only[yW,XX,j8,eF]using this
  have UH:=O6.same D _ rY rfl;have yK:=Bd B6 (grownBy_putObj' w6 D (.deferred none)) (λr e=>by cases e;exact⟨_,UH,rfl⟩);have hMP:=Fu (SC.mod M6 (by simp;omega)) (grownBy_putObj' w6 D (.deferred none)) (λr e=>by cases e;exact⟨_,UH,rfl⟩);have SA:Mod [mb] w (w6.putObj D (.deferred none)):=(dW (dW (dW (aZ.of_below (Bf.trans (hb1.mono Bf.size))) (oz pR (by omega) (by simp;omega))) (oz (M6.xQ (zb _)) (by have:=pR.size;omega) (by simp;omega))) (yA (w:=w) (zb _) w6 D _ _ (by omega) UH rfl rfl)).mod;have HE:=qd (And.intro hMP SA);have WY:=qd nu;have HSe:=qd hse;have Hsv:=qd aak;clear nu M6 O6 B6 hMP SA hse aak;go_wp2;rw[<-WY.o];refine yB ⟨by simp,.inl ⟨_,_,rfl,run_takeDeferred UH, ?_⟩⟩;have d0:=yK.cell 0;have d1:=yK.cell 1;have d2:=yK.cell 2;have d3:=yK.cell 3;have d4:=yK.cell 4;have d5:=yK.cell 5;have d6:=yK.cell 6;simp only[eF,zr,zc,Q2]at d0 d1 d2 d3 d4 d5 d6;refine⟨.agg (eF tb key hash none (-1) fp sv), ?_,none,fp, ?_⟩
  ·simp[results,Tryz.f120,go_sem,d0,d1,d2,d3,d4,d5,d6,eF]
  ·rw[HSe.o];exact⟨by rw[Hsv.o];rfl,(λi s hab=>by cases hab),hfp,HE.o.1,HE.o.2⟩
 case stop=>
  rintro D cd pre V hD ⟨j,hj,hj2⟩ ⟨⟨rfl,pre',x,ap,fp,he,hps,hend,uM,hap,hfp,SC⟩,pR⟩ rY;subst he;have hse:=WV hj2 hps hend;have hc0:=uM.cell 0;have hc1:=uM.cell 1;have hc2:=uM.cell 2;have hc3:=uM.cell 3;have hc4:=uM.cell 4;have xI:=uM.cell 5;have hc6:=uM.cell 6;have yK:aj (V.putObj D (.deferred none)) (w.heap.size+1+1+1+1) 222 _:=Bd uM (grownBy_putObj' V D (.deferred none)) (λr e=>by cases e;exact⟨_,rY,rfl⟩);have hMP:=Fu SC (grownBy_putObj' V D (.deferred none)) (λr e=>by cases e;exact⟨_,rY,rfl⟩)
  gi_wp2
  refine yB ⟨by simp,.inl ⟨_,_,rfl,run_takeDeferred rY, ?_⟩⟩;have d0:=yK.cell 0;have d1:=yK.cell 1;have d2:=yK.cell 2;have d3:=yK.cell 3;have d4:=yK.cell 4;have d5:=yK.cell 5;have d6:=yK.cell 6;simp only[eF,zr,zc,Q2]at d0 d1 d2 d3 d4 d5 d6;refine⟨.agg (eF tb key hash ap (bW (xR T.gs key hash x.val)) fp (bW (gy T.gs (vals (pre'++[x]))))), ?_,ap,fp, ?_⟩
  ·simp[results,Tryz.f120,go_sem,d0,d1,d2,d3,d4,d5,d6,eF]
  ·rw[hse];exact⟨rfl,hap,hfp,hMP,(dW pR (yA (w:=w) (zb _) V D _ _ (by have:=Bf.size;omega) rY rfl rfl)).mod⟩
end Go.Proofs.YtkddpchpcepjgaaGreatDoor

/-! Where a seek ends: the places are of the table. No program in sight. -/
namespace Go.Proofs.YtkddpchpcepjgaaGreatDoor.cu
set_option maxRecDepth 100000
set_option maxHeartbeats 4000000
open Go.RowKit Go.Shelf cu Go
theorem UJ {G:lU}{s:Nat}(h:mg G=some s):s<G.length/\(G.getD s .empty).isFull=false:=by
 obtain⟨hk,hp,_⟩:=xe.1 h;refine⟨hk, ?_⟩;rw[getD_in hk];simpa using hp
def D5 (gs:Tab)(x:Option (Nat×Nat)):Prop:=∀i s,x=some (i,s)->i<gs.length/\s<(gs.getD i []).length/\(aH gs i s).isFull=false
theorem WZ {gs:Tab}{fr:Option (Nat×Nat)}(h:D5 gs fr){i:Nat}(hi:i<gs.length):D5 gs (je fr i (gs.getD i [])):=by
 intro a b hab
 cases fr with
 |some x=>exact h a b hab
 |none=>
  unfold je at hab;dsimp only at hab
  cases hg:mg (gs.getD i [])with
  |none=>rw[hg]at hab;cases hab
  |some s=>
   rw[hg]at hab;cases hab;exact⟨hi,UJ hg⟩
theorem LJ (gs:Tab)(key hash:Nat):∀(l:List Nat) (fr:Option (Nat×Nat)),(∀i∈l,i<gs.length)->D5 gs fr->D5 gs (kM gs key hash l fr).2.1
 | [],_,_,h=>h
 |i::is,fr,hl,h=>by
  have h1:=WZ h (hl i (by simp));have ih:=LJ gs key hash is _ (λx hx=>hl x (by simp[hx])) h1;rw[kM]
  cases iL (gs.getD i []) key hash with
  |some s=>exact h1
  |none=>
   cases dP (gs.getD i [])with
   |true=>exact h1
   |false=>exact ih
theorem walk_lt {h n i:Nat}(hn:0<n)(hi:i∈walk h n):i<n:=by
 obtain⟨j,_,rfl⟩:=Z3.1 hi;exact kA _ hn
theorem Ak (gs:Tab)(hn:0<gs.length)(key hash:Nat):D5 gs (aJ gs key hash).2.1:=by
 rw[zH];exact LJ gs key hash _ none (λi hi=>walk_lt hn hi) (λ_ _ h=>by cases h)
theorem wE {gs:Tab}{key hash i s:Nat}(h:(aJ gs key hash).1=some (i,s)):∃e,aH gs i s= .full e/\e.key=key/\i<gs.length/\s<(gs.getD i []).length:=by
 obtain⟨e,h1,h2,_⟩:=IZ h;have:=lu (gs:=gs) (i:=i) (s:=s) (by rw[h1];simp);exact⟨e,h1,h2,this⟩
end Go.Proofs.YtkddpchpcepjgaaGreatDoor.cu
