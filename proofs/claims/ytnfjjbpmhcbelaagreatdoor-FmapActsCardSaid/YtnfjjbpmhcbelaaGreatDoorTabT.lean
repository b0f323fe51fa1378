/- A table's Seek by its contract. -/
import Derived.Test.YtnfjjbpmhcbelaaGreatDoorTabS
import Derived.Test.YtnfjjbpmhcbelaaGreatDoorAppAny
import Derived.Test.YtnfjjbpmhcbelaaGreatDoorGaugeA
namespace Go.Proofs.YtnfjjbpmhcbelaaGreatDoor
set_option maxRecDepth 100000
set_option maxHeartbeats 4000000
open Go.RowKit Go.Shelf dI Go
variable {S : List Nat} {X Y w w' : World} {row : Option Nat} {t : TypeId} {n : Nat}
attribute [local go_sem] Oper.semAt_some
def eO (a c:bq):Nat→bq
 |0=>a
 |k+1=>ji (eO a c k) c
theorem Mod.cell_ (h:Mod S w w'){p:Addr}(hp:p.block<w.heap.size)(hs:p.block∉S):w'.cell? p=w.cell? p:=World.cell?_of_block (w:=w) (h.block p.block hp hs)
theorem iX {B:Nat}(h:Mod S w w')(hS:∀k,k∈S→k<B):KeepsFrom B w w':=⟨h.size,fun k o hB hk _=>(h.block k (Array.getElem?_eq_some_iff.1 hk).1 (fun hh=>absurd (hS k hh) (by omega))).trans hk⟩
theorem mZ {n₀ n₁:Nat}{T:List Nat}{A B:World}(h:aY n₀ S A B)(hn:n₁≤n₀)(hS:∀k,k<n₁→k∈S→k∈T):aY n₁ T A B:=⟨h.os,h.tape,h.output,h.size,fun k hk hT=>h.block k (by omega) (fun hh=>hT (hS k hk hh))⟩
theorem Ab {g:Nat}{cs:Array Value}(h:aj X g t cs)(hg:X.grownBy Y row)(hr:∀r,row=some r→∃o:Obj,X.heap[r]?=some o∧o.isCells=false):aj Y g t cs:=by
 refine(hg.block g h.lt (fun e=> ?_)).trans h;obtain⟨o,ho,hc⟩:=hr g e.symm;rw[show X.heap[g]?=_ from h]at ho;cases ho;cases hc
theorem Ep {mb:Nat}{pre post:List Value}{mo:Nat}{a l:bq}{m:Int}(h:Met X mb t pre post mo a l m)(hg:X.grownBy Y row)(hr:∀r,row=some r→∃o:Obj,X.heap[r]?=some o∧o.isCells=false):Met Y mb t pre post mo a l m:=⟨h.len,Ab h.blk hg hr⟩
def bO (x:Option (Nat×Nat)):Int:=match x with
 |some y=>(y.2:Int)
 |none=> -1
def dV (tb key hash:Nat)(ap:Option Addr)(as_:Int)(fp:Option Addr)(fs:Int):Array Value:= #[pQ tb,nU key,nU hash,.pointer ap,.int .i64 as_,.pointer fp,.int .i64 fs]
def iB (gb:Nat)(x:Option (Nat×Nat))(p:Option Addr):Prop:=∀i s,x=some (i,s)→p=some ⟨gb,i*25,none⟩
def vals {n:Nat}(pre:List (Fin n)):List Nat:=pre.map Fin.val
theorem yT (pre:List (Fin n))(x:Fin n):vals (pre++[x])=vals pre++[x.val]:=by simp[vals]
def wY (gs:Tab)(key hash i:Nat):Option (Nat×Nat):=(gT (gs.getD i []) key hash).map fun s=>(i,s)
theorem U9 {gs:Tab}{key hash:Nat}{pre:List (Fin n)}{x:Fin n}{j:Nat}(hj:vals (pre++[x])=(walk (hash/128) gs.length).take j)(h:∀y∈pre,Passed gs key hash y.val)(he:gT (gs.getD x.val []) key hash≠none∨dH (gs.getD x.val [])=true):aJ gs key hash=(wY gs key hash x.val,fE gs (vals (pre++[x])),(pre++[x]).length):=by
 have hw:vals pre++x.val::(walk (hash/128) gs.length).drop j=walk (hash/128) gs.length:=by
  have:=List.take_append_drop j (walk (hash/128) gs.length);rw[←hj,yT,List.append_assoc]at this;exact this
 have hp:∀i∈vals pre,Passed gs key hash i:=fun i hi=>by
  obtain⟨y,hy,rfl⟩:=List.mem_map.1 hi;exact h y hy
 have hlen:(vals pre++[x.val]).length=(pre++[x]).length:=by simp[vals]
 unfold wY;rw[yT,←hlen]
 cases hf:gT (gs.getD x.val []) key hash with
 |some s=>exact Yw hw hp hf
 |none=>
  rcases he with he|he
  ·exact absurd hf he
  ·exact U8 hw hp hf he
theorem sO (tb gb key hash:Nat)(T:aC)(mb:Nat)(mt:TypeId)(gQ eP:List Value)(mo:Nat)(a0 l0:bq)(m:Int)(c:bq)(w:World)(h:TabAt w tb gb T)(hP:Pw T.gs.length)(h64:hash<18446744073709551616)(hM:Met w mb mt gQ eP mo a0 l0 m)(hmt:mb≠tb)(gH:mb≠gb)(hT:fP w)(hz:17 ≠mb):
  Calls Tryz.prog 105 #[bU tb,aG (some ⟨mb,mo,none⟩) c,nU key,nU hash] w fun e w'=>∃ap fp,e= .returned (bK tb key hash ap (bO (aJ T.gs key hash).1) fp (bO (aJ T.gs key hash).2.1))∧
   (∀i s,(aJ T.gs key hash).1=some (i,s)→ap=some ⟨gb,i*25,none⟩)∧(∀i s,(aJ T.gs key hash).2.1=some (i,s)→fp=some ⟨gb,i*25,none⟩)∧
   Met w' mb mt gQ eP mo (eO a0 c (aJ T.gs key hash).2.2) (eO l0 c (aJ T.gs key hash).2.2) m∧Mod [mb] w w':=by
 obtain⟨W,hW,hB,hA,hL,hK,hH,hR⟩:=qX5 w 184 #[pQ tb] 163 #[.pointer (some ⟨mb,mo,none⟩),.int .i64 c.p,.int .i64 c.v,.int .i64 c.u] 41 #[nU key] 41 #[nU hash] 205 #[.pointer none,.int .u64 0,.int .u64 0,.pointer none,.int .i64 0,.pointer none,.int .i64 0];have l7:=h.below hB;have hMW:=hM.below hB;have HW:=qd hW;have HB:=qd hB;have hg:=World.block_lt_of_cell? w _ (hT 0 (by omega));have htl:=h.aT;have hgl:=h.aU;have hml:=hM.lt;unfold bU aG bK;clear hW hB h hM;refine(callsIn_wide (n:=10)).1 ?_
 have h1:1≤10:=by omega
 refine kV Tryz.func105 rfl trivial rfl ?_;simp only[Tryz.ntmps105,List.size_toArray,List.length_cons,List.length_nil,Nat.reduceAdd,Nat.reduceSub,Array.replicate_succ,Array.replicate_zero,List.push_toArray,List.append_toArray,List.nil_append,List.cons_append];refine wpIn_wide.2 ?_;go_upto_region 1 with fail;rw[←HW.out];have ca0:=hA.cell 0;simp only[List.getElem?_toArray,List.getElem?_cons_zero]at ca0;have ck0:=hK.cell 0;simp only[List.getElem?_toArray,List.getElem?_cons_zero]at ck0;have ch0:=hH.cell 0;simp only[List.getElem?_toArray,List.getElem?_cons_zero]at ch0;go_upto_region 2 with fail;have hSp:=aj.new W 205 #[pQ tb,nU key,nU hash,.pointer none,.int .i64 (-1),.pointer none,.int .i64 (-1)];have hBW:=(Below.refl W.heap.size W).alloc (Nat.le_refl _) (.cells #[pQ tb,nU key,nU hash,.pointer none,.int .i64 (-1),.pointer none,.int .i64 (-1)] 205);obtain⟨W1,hW1⟩:∃W1,W1=W.alloc (.cells #[pQ tb,nU key,nU hash,.pointer none,.int .i64 (-1),.pointer none,.int .i64 (-1)] 205):=⟨_,rfl⟩;rw[←hW1]at hSp hBW⊢;have HW1:=qd hW1;clear hW1;have hT1:=l7.below hBW;have hM1:=hMW.below hBW;have ht:=aI hBW ca0;have hh:=aI hBW ch0;have hc:=hT1.cells.1;have Ac:Below w.heap.size w W1:=bP hBW HB.out;have hlR:=hR.lt;have afi:=hSp.lt
 refine rT (fun(w':World)=>w'.cell? ⟨w.heap.size+1+1+1,0,none⟩=some (nU hash)∧w'.cell? ⟨w.heap.size,0,none⟩=some (pQ tb)∧w'.cell? ⟨tb,0,none⟩=some (.slice (some ⟨gb,0,none⟩) T.gs.length T.gs.length)) [] ?_;have hHeld:=(⟨hh,ht,hc⟩:_∧_∧_);refine vT 0 rfl ?_;refine vT 2 rfl ?_;refine vW 3 rfl ?_;refine vW 4 rfl ?_;refine vT 5 rfl ?_;refine vW 6 rfl ?_;refine nT 1 rfl fun K hK=> ?_;go_simp;refine(X7 hash _).mono ?_;rintro e w1 ⟨rfl,rfl⟩;go_wp2_with fail;have hHeld:=(⟨hh,ht,hc⟩:_∧_∧_);refine kO hK ?_;clear hK K;refine nT 7 rfl fun K hK=> ?_;go_simp;refine(Sq (hash/128) T.gs.length _).mono ?_;rintro e w1 ⟨rfl,hw1⟩;have hb1:Below W1.heap.size W1 w1:=hw1▸(((Below.refl W1.heap.size W1).drew).alloc (Nat.le_refl _) _).alloc (by simp) _;have EU:aj w1 W1.heap.size 41 #[.int .u64 ((hash/128:Nat):Int)]:=hw1▸(aj.new W1.drew _ _).alloc _
 have hBg:aj w1 (W1.heap.size+1) 3 #[nI T.gs.length]:=by rw[←hw1];have h0:=aj.new (W1.drew.alloc (.cells #[.int .u64 ((hash/128:Nat):Int)] 41)) 3 #[nI T.gs.length];rw[show(W1.drew.alloc (.cells #[.int .u64 ((hash/128:Nat):Int)] 41)).heap.size=W1.heap.size+1 by simp]at h0;exact h0
 clear hw1;go_wp2_with fail;replace hh:=aI hb1 hh;replace ht:=aI hb1 ht;replace hc:=aI hb1 hc;have hHeld:=(⟨hh,ht,hc⟩:_∧_∧_);refine kO hK ?_;clear hK K;refine aR (by kernel_rfl) ?_ _;go_wp2_with fail;refine(wpIn_wide (n:=10)).1 ?_;have hA1:=(hA.below hBW hA.lt).below hb1 (hA.below hBW hA.lt).lt;have hL1:=(hL.below hBW hL.lt).below hb1 (hL.below hBW hL.lt).lt;have hK1:=(hK.below hBW hK.lt).below hb1 (hK.below hBW hK.lt).lt;have hH1:=(hH.below hBW hH.lt).below hb1 (hH.below hBW hH.lt).lt;have xP:=(hR.below hBW hR.lt).below hb1 (hR.below hBW hR.lt).lt;have hTw:=hT1.below hb1;have ab1:fP w1:=fun i hi=>((Ac.trans (hb1.mono Ac.size)).cell (p:=⟨17,pO i,none⟩) hg).trans (hT i hi);have hbl:=hb1.size
 have hgs:17 <w1.heap.size:=by have:=Ac.size;omega
 refine wpIn_rangeFunc_ownH rfl h1 (gf:=212) (lb:= #[.pointer (some ⟨W1.heap.size+1,0,none⟩),pQ W1.heap.size]) rfl trivial (enters_of Tryz.func212 (by kernel_rfl) rfl)
  (Sr (10-1) (by omega) (W1.heap.size+1) W1.heap.size w1.heap.size [W.heap.size,mb] (hash/128) T.gs.length (by omega) hP w1 hBg.lt (by simp;omega) EU.lt (Nat.le_refl _) (hBg.cell 0) (EU.cell 0)) dN (xG (Nat.le_refl _)) (Below.refl _ _) (fun _=>rfl)
  (fun pre V=>((∃fp,aj V W.heap.size 205 (dV tb key hash none (-1) fp (bO (fE T.gs (vals pre))))∧iB gb (fE T.gs (vals pre)) fp)∧Met V mb mt gQ eP mo (eO a0 c pre.length) (eO l0 c pre.length) m∧∀y∈pre,Passed T.gs key hash y.val)∧aY w1.heap.size [W.heap.size,mb] w1 V)
  (fun cd pre V=>(cd= .ret∧∃pre' x ap fp,pre=pre'++[x]∧(∀y∈pre',Passed T.gs key hash y.val)∧(gT (T.gs.getD x.val []) key hash≠none∨dH (T.gs.getD x.val [])=true)∧
   aj V (w.heap.size+1+1+1+1) 205 (dV tb key hash ap (bO (wY T.gs key hash x.val)) fp (bO (fE T.gs (vals pre))))∧iB gb (wY T.gs key hash x.val) ap∧iB gb (fE T.gs (vals pre)) fp∧
   Met V mb mt gQ eP mo (eO a0 c pre.length) (eO l0 c pre.length) m)∧aY w.heap.size [mb] w V)
  (OwnFrom.and (fun _ X Y row hs hg hr=>by
   obtain⟨⟨fp,h2,h3⟩,h4,h5⟩:=hs
   exact⟨⟨fp,Ab h2 hg (fun r e=>(hr r e).2),h3⟩,Ep h4 hg (fun r e=>(hr r e).2),h5⟩) (qK (Nat.le_refl _) (Nat.le_refl _)))
  (fun cd=>OwnFrom.and (fun _ X Y row hs hg hr=>by
   obtain⟨h0,pre',x,ap,fp,h2,h3,h4,h5,h6,h7,h8⟩:=hs
   exact⟨h0,pre',x,ap,fp,h2,h3,h4,Ab h5 hg (fun r e=>(hr r e).2),h6,h7,Ep h8 hg (fun r e=>(hr r e).2)⟩) (qK (Nat.le_refl _) (by have:=Ac.size;omega)))
  ⟨⟨⟨none,hSp.below hb1 hSp.lt,fun i s he=>by cases he⟩,hM1.below hb1,by simp⟩,aY.refl _ _ _⟩
  (fun x a' _=>a'={tmps:= #[pQ tb,.agg #[.pointer (some ⟨mb,mo,none⟩),.int .i64 c.p,.int .i64 c.v,.int .i64 c.u],nU key,nU hash,pQ w.heap.size,.pointer (some ⟨w.heap.size+1,0,none⟩),.pointer (some ⟨w.heap.size+1+1,0,none⟩),.pointer (some ⟨w.heap.size+1+1+1,0,none⟩),.pointer (some ⟨w.heap.size+1+1+1+1,0,none⟩),pQ W.heap.size,nI x.val,undef,undef,pQ tb,nU key,nU hash,.agg #[.pointer none,.int .i64 (-1)],.agg #[.pointer none,.int .i64 (-1)],.agg #[pQ tb,nU key,nU hash,.pointer none,.int .i64 (-1),.pointer none,.int .i64 (-1)],nU hash,.int .u64 ((hash:Int)/128),pQ tb,pQ tb,pQ tb,.slice (some ⟨gb,0,none⟩) T.gs.length T.gs.length,nI T.gs.length,.func (.func 212) #[] #[.pointer (some ⟨W1.heap.size+1,0,none⟩),pQ W1.heap.size],nI x.val,undef,undef,undef,undef,undef,undef,undef,undef,undef,undef,undef,undef,undef,undef,undef,undef,undef,undef,undef,undef,undef,undef,undef,undef,undef,undef,undef,undef,undef,undef,undef,undef],defers:=[]})
  (fun _ _ _ _ _ _ hs _ _=>hs) ?assign ?body ?done ?stop
 case assign=>
  rintro lp pre x V K hi hK
  gi_wp2
  exact hK _ _ (KeepsFrom.refl _ _) (aY.refl _ _ _) hi rfl
 case body=>
  rintro lp pre x a' V hl ⟨r,hr⟩ ⟨⟨⟨fp,C8,hfp⟩,QH,hps⟩,oK⟩ rfl hlt;have hAV:=oK.blk hA1 (by omega) (by simp;omega);have hLV:=oK.blk hL1 (by omega) (by simp;omega);have hTV:=hTw.keep oK (by omega) (by omega) (by simp;omega) (by simp;omega);have hxn:x.val<T.gs.length:=x.isLt;have Yx:=hP.le
  have hxi:(x.val:Int)<(T.gs.length:Int):=by omega
  have hx0:(0:Int)≤(x.val:Int):=by omega
  have CX:=oK.size;have t0:=hAV.cell 0;simp only[List.getElem?_toArray,List.getElem?_cons_zero]at t0;obtain⟨Ko,Kq,Kr,Kt⟩:=hLV.c4;have hc:=hTV.cells.1;have HS:=qd (fun(wX:World) (M:Mod [mb] V wX)=>show(fun(w':World)=>w'.cell? ⟨w.heap.size,0,none⟩=some (pQ tb)∧w'.cell? ⟨tb,0,none⟩=some (.slice (some ⟨gb,0,none⟩) T.gs.length T.gs.length)∧w'.cell? ⟨w.heap.size+1,0,none⟩=some (.pointer (some ⟨mb,mo,none⟩))∧w'.cell? ⟨w.heap.size+1,1,none⟩=some (.int .i64 c.p)∧w'.cell? ⟨w.heap.size+1,2,none⟩=some (.int .i64 c.v)∧w'.cell? ⟨w.heap.size+1,3,none⟩=some (.int .i64 c.u)) wX from⟨(M.cell_ (p:=⟨w.heap.size,0,none⟩) (by show w.heap.size<_;omega) (by simp;omega)).trans t0,(M.cell_ (p:=⟨tb,0,none⟩) (by show tb<_;omega) (by simp;omega)).trans hc,(M.cell_ (p:=⟨w.heap.size+1,0,none⟩) (by show w.heap.size+1<_;omega) (by simp;omega)).trans Ko,(M.cell_ (p:=⟨w.heap.size+1,1,none⟩) (by show w.heap.size+1<_;omega) (by simp;omega)).trans Kq,(M.cell_ (p:=⟨w.heap.size+1,2,none⟩) (by show w.heap.size+1<_;omega) (by simp;omega)).trans Kr,(M.cell_ (p:=⟨w.heap.size+1,3,none⟩) (by show w.heap.size+1<_;omega) (by simp;omega)).trans Kt⟩)
  gi_wp2_with fail
  refine adT (fun a' w2=>∃vb,a'={tmps:= #[pQ tb,.agg #[.pointer (some ⟨mb,mo,none⟩),.int .i64 c.p,.int .i64 c.v,.int .i64 c.u],nU key,nU hash,pQ w.heap.size,.pointer (some ⟨w.heap.size+1,0,none⟩),.pointer (some ⟨w.heap.size+1+1,0,none⟩),.pointer (some ⟨w.heap.size+1+1+1,0,none⟩),.pointer (some ⟨w.heap.size+1+1+1+1,0,none⟩),pQ W.heap.size,nI x.val,pQ vb,undef,pQ tb,nU key,nU hash,.agg #[.pointer none,.int .i64 (-1)],.agg #[.pointer none,.int .i64 (-1)],.agg #[pQ tb,nU key,nU hash,.pointer none,.int .i64 (-1),.pointer none,.int .i64 (-1)],nU hash,.int .u64 ((hash:Int)/128),pQ tb,pQ tb,pQ tb,.slice (some ⟨gb,0,none⟩) T.gs.length T.gs.length,nI T.gs.length,.func (.func 212) #[] #[.pointer (some ⟨W1.heap.size+1,0,none⟩),pQ W1.heap.size],nI x.val,pQ tb,pQ tb,pQ tb,.slice (some ⟨gb,0,none⟩) T.gs.length T.gs.length,nI x.val,.pointer (some ⟨gb,x.val*25,none⟩),.agg #[.pointer (some ⟨mb,mo,none⟩),.int .i64 c.p,.int .i64 c.v,.int .i64 c.u],.agg #[.pointer (some ⟨gb,x.val*25,none⟩)],undef,undef,undef,undef,undef,undef,undef,undef,undef,undef,undef,undef,undef,undef,undef,undef,undef,undef,undef,undef,undef,undef,undef,undef],defers:=[]}∧aj w2 vb 201 #[.pointer (some ⟨gb,x.val*25,none⟩)]∧V.heap.size≤vb∧Met w2 mb mt gQ eP mo (ji (eO a0 c pre.length) c) (ji (eO l0 c pre.length) c) m∧Mod [mb] V w2) ?_ ?_
  ·refine AY (fun(w':World)=>w'.cell? ⟨w.heap.size,0,none⟩=some (pQ tb)∧w'.cell? ⟨tb,0,none⟩=some (.slice (some ⟨gb,0,none⟩) T.gs.length T.gs.length)∧w'.cell? ⟨w.heap.size+1,0,none⟩=some (.pointer (some ⟨mb,mo,none⟩))∧w'.cell? ⟨w.heap.size+1,1,none⟩=some (.int .i64 c.p)∧w'.cell? ⟨w.heap.size+1,2,none⟩=some (.int .i64 c.v)∧w'.cell? ⟨w.heap.size+1,3,none⟩=some (.int .i64 c.u)) [] (by kernel_rfl) (by kernel_rfl) (by rintro⟨_,_,h⟩;exact h) ?_
   try (change bE _ _ _ _ _ _ _ _ _ (World.drew _))
   have hHeld:=(⟨t0,hc,Ko,Kq,Kr,Kt⟩:_∧_∧_∧_∧_∧_);refine vT 0 rfl ?_;refine vW 1 rfl ?_;refine vW 2 rfl ?_;refine vT 3 rfl ?_;refine vW 4 rfl ?_;refine vW 5 rfl ?_;refine vT 6 rfl ?_;refine pairT (i:=7) (j:=8) (o:=⟨some 35,_,_,_,_,_⟩) (o':=⟨some 11,_,_,_,_,_⟩) rfl rfl (by kernel_rfl) (fun K hK=> ?_) (fun K hK=> ?_)
   ·go_simp;refine(wV ⟨gb,x.val*25,none⟩ mb mt gQ eP mo _ _ m c _ (QH.below (Below.refl _ _).drew)).mono ?_;rintro e w2 ⟨rfl,hM2,hm2⟩;simp only[bC];go_wp2_with fail;have M7:Mod [mb] V w2:=(Mod.drewN [mb] V 1).then hm2;refine hK.out _ _ (fun _=>HS.out _ M7) ?_;clear hK K
    try simp only[pt]
    refine nT 8 rfl fun K hK=> ?_;go_simp;have M8:Mod [mb] V (w2.alloc (.cells #[.pointer none] 201)):=M7.alloc _;have C9:=aj.new w2 201 #[.pointer none];have QI:=hM2.below ((Below.refl w2.heap.size w2).alloc (Nat.le_refl _) (.cells #[.pointer none] 201));have adV:=M7.size;obtain⟨w3,hw3⟩:∃w3,w3=w2.alloc (.cells #[.pointer none] 201):=⟨_,rfl⟩;rw[←hw3]at M8 C9 QI⊢;clear hw3;refine hK.out _ _ (fun _=>HS.out _ M8) ?_;clear hK K
    try simp only[pt]
    refine nT 9 rfl fun K hK=> ?_;have n0:=C9.cell 0;simp only[List.getElem?_toArray,List.getElem?_cons_zero]at n0;have nf:=C9.frozen 0;go_simp;have M9:=M8.ak (b:=w2.heap.size) (.inr (by omega)) 0 (.pointer (some ⟨gb,x.val*25,none⟩));refine hK.out _ _ (fun _=>HS.out _ M9) ?_;clear hK K
    try simp only[pt]
    refine aR (by kernel_rfl) ?_ _;exact⟨w2.heap.size,rfl,C9.ak 0 _,adV,⟨QI.len,QI.blk.far (p:=⟨w2.heap.size,0,none⟩) (by show mb≠w2.heap.size;omega) _⟩,M9⟩
   ·go_simp;have M8:Mod [mb] V (V.alloc (.cells #[.pointer none] 201)).drew:=((Mod.refl [mb] V).alloc _).then (Mod.drewN [mb] _ 1);have C9:aj (V.alloc (.cells #[.pointer none] 201)).drew V.heap.size 201 #[.pointer none]:=(aj.new V _ _).drew;have QI:=QH.below (((Below.refl V.heap.size V).alloc (Nat.le_refl _) (.cells #[.pointer none] 201)).drew);obtain⟨w3,hw3⟩:∃w3,w3=(V.alloc (.cells #[.pointer none] 201)).drew:=⟨_,rfl⟩;rw[←hw3]at M8 C9 QI⊢;clear hw3;refine hK.out _ _ (fun _=>HS.out _ M8) ?_;clear hK K
    try simp only[pt]
    refine nT 7 rfl fun K hK=> ?_;go_simp;refine(wV ⟨gb,x.val*25,none⟩ mb mt gQ eP mo _ _ m c _ QI).mono ?_;rintro e w2 ⟨rfl,hM2,hm2⟩;simp only[bC];go_wp2_with fail;have M7:Mod [mb] V w2:=M8.then hm2;replace C9:=C9.mod hm2 (by simp;omega);refine hK.out _ _ (fun _=>HS.out _ M7) ?_;clear hK K
    try simp only[pt]
    refine nT 9 rfl fun K hK=> ?_;have n0:=C9.cell 0;simp only[List.getElem?_toArray,List.getElem?_cons_zero]at n0;have nf:=C9.frozen 0;go_simp;have M9:=M7.ak (b:=V.heap.size) (.inr (Nat.le_refl _)) 0 (.pointer (some ⟨gb,x.val*25,none⟩));refine hK.out _ _ (fun _=>HS.out _ M9) ?_;clear hK K
    try simp only[pt]
    refine aR (by kernel_rfl) ?_ _;exact⟨V.heap.size,rfl,C9.ak 0 _,Nat.le_refl _,⟨hM2.len,hM2.blk.far (p:=⟨V.heap.size,0,none⟩) (by show mb≠V.heap.size;omega) _⟩,M9⟩
  ·rintro a' w2 ⟨vb,rfl,Va,hvb,hM2,hm2⟩;simp only[Array.mk.injEq];have hK2:aY w1.heap.size [W.heap.size,mb] w1 w2:=dN oK ((hm2.more (T:=[W.heap.size,mb]) (by simp)).wW CX);have Yy:aY w1.heap.size [W.heap.size,mb] V w2:=(hm2.more (T:=[W.heap.size,mb]) (by simp)).wW CX;have kD:=hTV.mod hm2 (by simp;omega) (by simp;omega);have hS2:=C8.mod hm2 (by simp;omega);have Yz:=hK2.blk hK1 (by omega) (by simp;omega);have YA:=hK2.blk hH1 (by omega) (by simp;omega);have hR2:=hK2.blk xP (by omega) (by simp;omega);have YB:fP w2:=hK2.tz hgs (by simp;omega) ab1;have YC:KeepsFrom w1.heap.size V w2:=iX hm2 (by simp;omega);have afj:w1.heap.size≤vb:=Nat.le_trans CX hvb;cases hfr:fE T.gs (vals pre)
   case' some y=>
    have hfr2:fE T.gs (vals (pre++[x]))=some y:=by rw[yT,uS,hfr];rfl
    rw[hfr]at hS2 hfp;obtain⟨wq,hwq⟩:∃wq,wq=w2:=⟨_,rfl⟩;obtain⟨wJ,Jo⟩:∃wJ,wJ=fp:=⟨_,rfl⟩;rw[←hwq]at hS2 Va Yz YA hR2 kD YB YC hK2 Yy hM2⊢;rw[←Jo]at hS2 hfp;clear hwq Jo hm2;have Da:=hS2;have Ku:iB gb (fE T.gs (vals (pre++[x]))) wJ:=hfr2▸hfp;have Kv:=Va;have hKq:=Yz;have Np:=hR2;have Vb:=hM2;have Db:=hK2;have YD:=Yy;have YE:=YC;have hHq:=YA;have hTq:=kD;have ab2:=YB
    have hsl:¬bO (some y)<0:=by simp only[bO];omega
    generalize hsv:bO (some y)=sv at*
    have hsq:bO (fE T.gs (vals (pre++[x])))=sv:=by rw[hfr2];exact hsv
    unfold dV at Da;obtain⟨p0,p1,p2,p3,p4,p5,p6⟩:=Da.c7
   case' none=>
    rw[hfr]at hS2;simp only[dV,bO]at hS2;obtain⟨p0,p1,p2,p3,p4,p5,p6⟩:=hS2.c7;have v0:=Va.cell 0;simp only[List.getElem?_toArray,List.getElem?_cons_zero]at v0;obtain⟨q0,q1,q2,q3,q4,q5,q6⟩:=hS2.f7;have wK:=qd (Yr gb _ _ _ (x.val*25) _ w2.drew ((kD.below (Below.refl _ _).drew).group x.val hxn) (fun i hi=>YB i hi));obtain⟨fv,hfv⟩:∃fv,fv=uF (kW (T.gs.getD x.val [])):=⟨_,rfl⟩;rw[←hfv]at wK;have Hfv:=qd hfv;clear hfv
    gi_wp2_with fail
    refine AY (fun(w':World)=>w'.cell? ⟨vb,0,none⟩=some (.pointer (some ⟨gb,x.val*25,none⟩))) [5] (by kernel_rfl) (by kernel_rfl) (by rintro⟨_,_,h⟩;exact h) ?_
    try (change bE _ _ _ _ _ _ _ _ _ (World.drew _))
    have hHeld:=v0;refine vT 0 rfl ?_;refine vT 1 rfl ?_;refine nT 2 rfl fun K hK=> ?_;go_simp;refine(wK.out).mono ?_;rintro e w3 ⟨rfl,hb3⟩;replace hb3:Below w2.heap.size w2 w3:=bP hb3 (Below.refl _ _).drew;go_wp2_with fail;have hHeld:=show(fun(w':World)=>w'.cell? ⟨vb,0,none⟩=some (.pointer (some ⟨gb,x.val*25,none⟩))) _ from aI hb3 v0;refine kO hK ?_;clear hK K;refine vW 3 rfl ?_;refine vW 4 rfl ?_;refine nT 5 rfl fun K hK=> ?_;have p5n:=aI hb3 p5;have p6n:=aI hb3 p6;have q5n:=(hS2.below hb3 hS2.lt).frozen 5;have q6n:=(hS2.below hb3 hS2.lt).frozen 6;go_simp;refine kO hK ?_;clear hK K;refine aR (by kernel_rfl) ?_ _
    have hfr2:fE T.gs (vals (pre++[x]))=(kW (T.gs.getD x.val [])).map fun s=>(x.val,s):=by rw[yT,uS,hfr];rfl
    have ab3:bO (fE T.gs (vals (pre++[x])))=uF (kW (T.gs.getD x.val [])):=by rw[hfr2];cases kW (T.gs.getD x.val [])<;>rfl
    obtain⟨wq,hwq⟩:∃wq,wq=(w3.setCell ⟨W.heap.size,5,none⟩ (.pointer (some ⟨gb,x.val*25,none⟩))).setCell ⟨W.heap.size,6,none⟩ (.int .i64 fv):=⟨_,rfl⟩;rw[←hwq];have Mq:Mod [W.heap.size] w2 wq:=hwq▸(((Mod.of_below hb3 [W.heap.size]).ak (.inl (by simp)) _ _).ak (.inl (by simp)) _ _)
    have SA:aj wq W.heap.size 205 (dV tb key hash none (-1) (some ⟨gb,x.val*25,none⟩) fv):=by
     have:=((hS2.below hb3 hS2.lt).ak 5 (.pointer (some ⟨gb,x.val*25,none⟩))).ak 6 (.int .i64 fv);rw[hwq];simpa only[List.setIfInBounds_toArray,List.set_cons_zero,List.set_cons_succ,dV]using this
    obtain⟨wJ,Jo⟩:∃wJ:Option Addr,wJ=some ⟨gb,x.val*25,none⟩:=⟨_,rfl⟩;rw[←Jo]at SA
    have Ku:iB gb (fE T.gs (vals (pre++[x]))) wJ:=fun a b hab=>by
     rw[hfr2]at hab
     cases hg2:kW (T.gs.getD x.val [])with
     |none=>
      rw[hg2]at hab;cases hab
     |some s2=>
      rw[hg2]at hab;cases hab;exact Jo
    clear hwq Jo;have Kv:=Va.mod Mq (by simp;omega);have hKq:=Yz.mod Mq (by simp;omega);have hHq:=YA.mod Mq (by simp;omega);have Np:=hR2.mod Mq (by simp;omega);have Vb:=hM2.mod Mq (by simp;omega);have hTq:=kD.mod Mq (by simp;omega) (by simp;omega);have ab4:=hK2.size;have Db:=dN hK2 (mZ (Mq.wW (Nat.le_refl _)) ab4 (T:=[W.heap.size,mb]) (by simp;omega));have YD:=dN Yy (mZ (Mq.wW (Nat.le_refl _)) ab4 (T:=[W.heap.size,mb]) (by simp;omega));have YE:=YC.trans (iX Mq (by simp;omega));have ab2:fP wq:=Db.tz hgs (by simp;omega) ab1;obtain⟨sv,YF⟩:∃sv,sv=fv:=⟨_,rfl⟩;rw[←YF]at SA
    have hsq:bO (fE T.gs (vals (pre++[x])))=sv:=by rw[ab3,YF];exact Hfv.out.symm
    clear YF ab3;have Da:=SA;unfold dV at Da;clear SA hS2 hm2 Mq v0 Va;obtain⟨pz0,pz1,pz2,pz3,pz4,pz5,pz6⟩:=Da.c7
   all_goals
    have v0:=Kv.cell 0;simp only[List.getElem?_toArray,List.getElem?_cons_zero]at v0;have kk0:=hKq.cell 0;simp only[List.getElem?_toArray,List.getElem?_cons_zero]at kk0;have hh0:=hHq.cell 0;simp only[List.getElem?_toArray,List.getElem?_cons_zero]at hh0;have Kg:=qd (uG (q:=7) (Yq gb 246 (dw (T.gs.take x.val)) (dw (T.gs.drop (x.val+1))) (x.val*25) (T.gs.getD x.val []) wq (hTq.group x.val hxn) key hash h64 ab2))
    cases hf:gT (T.gs.getD x.val []) key hash with
    |some s=>
     rw[hf]at Kg;simp only[uF]at Kg
     have hs0:(0:Int)≤(s:Int):=by omega
     gi_wp2_with fail
     refine⟨trivial,(CallsIn.inRound lp Kg.out).mono ?_⟩;rintro e w5 ⟨rfl,hb5⟩;have rM:=dN Db (aY.of_below (n₀:=w1.heap.size) (S:=[W.heap.size,mb]) (hb5.mono (by have:=Db.size;omega)));have SB:=dN YD (aY.of_below (n₀:=w1.heap.size) (S:=[W.heap.size,mb]) (hb5.mono (by have:=Db.size;omega)));have wo:=YE.trans (iX (Mod.of_below hb5 []) (by simp));have hS5:=Da.below hb5 Da.lt;have Kw:=Np.below hb5 Np.lt;have Ad:=Kv.below hb5 Kv.lt;have Ae:=Vb.below hb5;have oM:=hTq.below hb5;obtain⟨s0,s1,s2,s3,s4,s5,s6⟩:=hS5.c7;obtain⟨sf0,sf1,sf2,sf3,sf4,sf5,sf6⟩:=hS5.f7;obtain⟨r0,r1,r2,r3,r4,r5,r6⟩:=Kw.c7;obtain⟨rf0,rf1,rf2,rf3,rf4,rf5,rf6⟩:=Kw.f7;have QJ:=Ad.cell 0;simp only[List.getElem?_toArray,List.getElem?_cons_zero]at QJ;clear v0 kk0 hh0 hS5 Ad hb5 Da Kv Np Vb;obtain⟨w6,l9⟩:∃w6,w6=((((((((w5.setCell ⟨W.heap.size,3,none⟩ (.pointer (some ⟨gb,x.val*25,none⟩))).setCell ⟨W.heap.size,4,none⟩ (nI s)).setCell ⟨w.heap.size+1+1+1+1,0,none⟩ (pQ tb)).setCell ⟨w.heap.size+1+1+1+1,1,none⟩ (nU key)).setCell ⟨w.heap.size+1+1+1+1,2,none⟩ (nU hash)).setCell ⟨w.heap.size+1+1+1+1,3,none⟩ (.pointer (some ⟨gb,x.val*25,none⟩))).setCell ⟨w.heap.size+1+1+1+1,4,none⟩ (nI s)).setCell ⟨w.heap.size+1+1+1+1,5,none⟩ (.pointer wJ)).setCell ⟨w.heap.size+1+1+1+1,6,none⟩ (.int .i64 sv):=⟨_,rfl⟩
     have M6:Mod [W.heap.size,w.heap.size+1+1+1+1] w5 w6:=l9▸((((((((((Mod.refl [W.heap.size,w.heap.size+1+1+1+1] w5).ak (.inl (by simp)) _ _).ak (.inl (by simp)) _ _).ak (.inl (by simp)) _ _).ak (.inl (by simp)) _ _).ak (.inl (by simp)) _ _).ak (.inl (by simp)) _ _).ak (.inl (by simp)) _ _).ak (.inl (by simp)) _ _).ak (.inl (by simp)) _ _)
     have B6:aj w6 (w.heap.size+1+1+1+1) 205 (dV tb key hash (some ⟨gb,x.val*25,none⟩) (s:Int) wJ sv):=by
      have:=(((((((((Kw).far (p:=⟨W.heap.size,3,none⟩) (by show w.heap.size+1+1+1+1≠W.heap.size;omega) (.pointer (some ⟨gb,x.val*25,none⟩))).far (p:=⟨W.heap.size,4,none⟩) (by show w.heap.size+1+1+1+1≠W.heap.size;omega) (nI s)).ak 0 (pQ tb)).ak 1 (nU key)).ak 2 (nU hash)).ak 3 (.pointer (some ⟨gb,x.val*25,none⟩))).ak 4 (nI s)).ak 5 (.pointer wJ)).ak 6 (.int .i64 sv);rw[l9];simpa only[List.setIfInBounds_toArray,List.set_cons_zero,List.set_cons_succ,dV]using this
     have T6:=Ae.mod M6 (by simp;omega);have K6:aY w.heap.size [mb] w w6:=dN (dN (aY.of_below (Ac.trans (hb1.mono Ac.size))) (mZ rM (by omega) (by simp;omega))) (mZ (M6.wW (Nat.le_refl _)) (by have:=rM.size;have:=Ac.size;omega) (by simp;omega));have F6:KeepsFrom w1.heap.size V w6:=wo.trans (iX M6 (by simp;omega));have HE:=qd (And.intro B6 (And.intro T6 (And.intro K6 F6)));clear M6 B6 T6 K6 F6;have Vd:=qd l9;clear l9
     gi_wp2
     rw[←Vd.out];exact⟨HE.out.2.2.2,⟨rfl,pre,x,some ⟨gb,x.val*25,none⟩,wJ,rfl,hps,.inl (by rw[hf];simp),by rw[hsq,wY,hf];exact HE.out.1,fun a b hab=>by rw[wY,hf]at hab;cases hab;rfl,Ku,by rw[List.length_append];exact HE.out.2.1⟩,HE.out.2.2.1⟩
    |none=>
     rw[hf]at Kg;simp only[uF]at Kg
     gi_wp2_with fail
     refine⟨trivial,(CallsIn.inRound lp Kg.out).mono ?_⟩;rintro e w4 ⟨rfl,hb4⟩;have hK4:=dN Db (aY.of_below (n₀:=w1.heap.size) (S:=[W.heap.size,mb]) (hb4.mono (by have:=Db.size;omega)));have ab5:=dN YD (aY.of_below (n₀:=w1.heap.size) (S:=[W.heap.size,mb]) (hb4.mono (by have:=Db.size;omega)));have CY:=YE.trans (iX (Mod.of_below hb4 []) (by simp));have Ky:=Da.below hb4 Da.lt;have nR:=Np.below hb4 Np.lt;have QK:=Kv.below hb4 Kv.lt;have Ih:=Vb.below hb4;have QL:=hTq.below hb4;have QJ:=QK.cell 0;simp only[List.getElem?_toArray,List.getElem?_cons_zero]at QJ;have Nq:=qd (uG (q:=7) (Yt gb _ _ _ (x.val*25) _ w4 (QL.group x.val hxn)))
     cases ho':dH (T.gs.getD x.val [])with
     |true=>
      rw[ho']at Nq;have ho:dH (T.gs.getD x.val [])=true:=ho'
      gi_wp2_with fail
      refine⟨trivial,(CallsIn.inRound lp Nq.out).mono ?_⟩;rintro e w5 ⟨rfl,hb5⟩;have rM:=dN hK4 (aY.of_below (n₀:=w1.heap.size) (S:=[W.heap.size,mb]) (hb5.mono (by have:=hK4.size;omega)));have SB:=dN ab5 (aY.of_below (n₀:=w1.heap.size) (S:=[W.heap.size,mb]) (hb5.mono (by have:=hK4.size;omega)));have wo:=CY.trans (iX (Mod.of_below hb5 []) (by simp));have hS5:=Ky.below hb5 Ky.lt;have Kw:=nR.below hb5 nR.lt;have Ad:=QK.below hb5 QK.lt;have Ae:=Ih.below hb5;have oM:=QL.below hb5;obtain⟨s0,s1,s2,s3,s4,s5,s6⟩:=hS5.c7;obtain⟨sf0,sf1,sf2,sf3,sf4,sf5,sf6⟩:=hS5.f7;obtain⟨r0,r1,r2,r3,r4,r5,r6⟩:=Kw.c7;obtain⟨rf0,rf1,rf2,rf3,rf4,rf5,rf6⟩:=Kw.f7;have QJ:=Ad.cell 0;simp only[List.getElem?_toArray,List.getElem?_cons_zero]at QJ;clear v0 kk0 hh0 QJ hS5 Ad hb5 Da Kv Np Vb Ky nR QK Ih;obtain⟨w6,l9⟩:∃w6,w6=((((((w5.setCell ⟨w.heap.size+1+1+1+1,0,none⟩ (pQ tb)).setCell ⟨w.heap.size+1+1+1+1,1,none⟩ (nU key)).setCell ⟨w.heap.size+1+1+1+1,2,none⟩ (nU hash)).setCell ⟨w.heap.size+1+1+1+1,3,none⟩ (.pointer none)).setCell ⟨w.heap.size+1+1+1+1,4,none⟩ (.int .i64 (-1))).setCell ⟨w.heap.size+1+1+1+1,5,none⟩ (.pointer wJ)).setCell ⟨w.heap.size+1+1+1+1,6,none⟩ (.int .i64 sv):=⟨_,rfl⟩;have M6:Mod [W.heap.size,w.heap.size+1+1+1+1] w5 w6:=l9▸((((((((Mod.refl [W.heap.size,w.heap.size+1+1+1+1] w5).ak (.inl (by simp)) _ _).ak (.inl (by simp)) _ _).ak (.inl (by simp)) _ _).ak (.inl (by simp)) _ _).ak (.inl (by simp)) _ _).ak (.inl (by simp)) _ _).ak (.inl (by simp)) _ _)
      have B6:aj w6 (w.heap.size+1+1+1+1) 205 (dV tb key hash none (-1) wJ sv):=by
       have:=(((((((Kw).ak 0 (pQ tb)).ak 1 (nU key)).ak 2 (nU hash)).ak 3 (.pointer none)).ak 4 (.int .i64 (-1))).ak 5 (.pointer wJ)).ak 6 (.int .i64 sv);rw[l9];simpa only[List.setIfInBounds_toArray,List.set_cons_zero,List.set_cons_succ,dV]using this
      have T6:=Ae.mod M6 (by simp;omega);have K6:aY w.heap.size [mb] w w6:=dN (dN (aY.of_below (Ac.trans (hb1.mono Ac.size))) (mZ rM (by omega) (by simp;omega))) (mZ (M6.wW (Nat.le_refl _)) (by have:=rM.size;have:=Ac.size;omega) (by simp;omega));have F6:KeepsFrom w1.heap.size V w6:=wo.trans (iX M6 (by simp;omega));have HE:=qd (And.intro B6 (And.intro T6 (And.intro K6 F6)));clear M6 B6 T6 K6 F6;have Vd:=qd l9;clear l9
      gi_wp2
      rw[←Vd.out];exact⟨HE.out.2.2.2,⟨rfl,pre,x,none,wJ,rfl,hps,.inr ho,by rw[hsq,wY,hf];exact HE.out.1,(fun a b hab=>by rw[wY,hf]at hab;cases hab),Ku,by rw[List.length_append];exact HE.out.2.1⟩,HE.out.2.2.1⟩
     |false=>
      rw[ho']at Nq
      gi_wp2_with fail
      refine⟨trivial,(CallsIn.inRound lp Nq.out).mono ?_⟩;rintro e w5 ⟨rfl,hb5⟩;have rM:=dN hK4 (aY.of_below (n₀:=w1.heap.size) (S:=[W.heap.size,mb]) (hb5.mono (by have:=hK4.size;omega)));have SB:=dN ab5 (aY.of_below (n₀:=w1.heap.size) (S:=[W.heap.size,mb]) (hb5.mono (by have:=hK4.size;omega)));have wo:=CY.trans (iX (Mod.of_below hb5 []) (by simp));have hS5:=Ky.below hb5 Ky.lt;have Kw:=nR.below hb5 nR.lt;have Ad:=QK.below hb5 QK.lt;have Ae:=Ih.below hb5;have oM:=QL.below hb5;have HPs:=qd (show∀y∈pre++[x],Passed T.gs key hash y.val from fun y hy=>(List.mem_append.1 hy).elim (hps y) (fun e=>by simp at e;subst e;exact⟨hf,ho'⟩));have HL5:=qd (show Met w5 mb mt gQ eP mo (eO a0 c (pre++[x]).length) (eO l0 c (pre++[x]).length) m from by rw[List.length_append];exact Ae);have Ve:=qd (show∃fp,aj w5 W.heap.size 205 (dV tb key hash none (-1) fp (bO (fE T.gs (vals (pre++[x])))))∧iB gb (fE T.gs (vals (pre++[x]))) fp from⟨wJ,by rw[hsq];exact hS5,Ku⟩);have HE:=qd (And.intro wo (And.intro SB rM));clear hps hf ho' Ae hS5 wo SB rM
      gi_wp2
      exact⟨HE.out.1,HE.out.2.1,⟨Ve.out,HL5.out,HPs.out⟩,HE.out.2.2⟩
 case done=>
  rintro D ys V hD hys ⟨⟨⟨fp,C8,hfp⟩,QH,hps⟩,oK⟩ rJ
  have hse:aJ T.gs key hash=(none,fE T.gs (vals ys),ys.length):=by
   have:=Yv (gs:=T.gs) (key:=key) (hash:=hash) (pre:=vals ys) hys (fun i hi=>by
    obtain⟨y,hy,rfl⟩:=List.mem_map.1 hi
    exact hps y hy)
   rw[this];simp[vals]
  have tY:=oK.blk xP (by omega) (by simp;omega);obtain⟨sv,YG⟩:∃sv,bO (fE T.gs (vals ys))=sv:=⟨_,rfl⟩;rw[YG]at C8;unfold dV at C8;have s0:=C8.cell 0;have s1:=C8.cell 1;have s2:=C8.cell 2;have s3:=C8.cell 3;have s4:=C8.cell 4;have s5:=C8.cell 5;have s6:=C8.cell 6;have r0:=tY.cell 0;have r1:=tY.cell 1;have r2:=tY.cell 2;have r3:=tY.cell 3;have r4:=tY.cell 4;have r5:=tY.cell 5;have r6:=tY.cell 6;simp only[gl]at s0 s1 s2 s3 s4 s5 s6 r0 r1 r2 r3 r4 r5 r6;obtain⟨f0,f1,f2,f3,f4,f5,f6⟩:=tY.f7;obtain⟨w6,l9⟩:∃w6,w6=((((((V.setCell ⟨w.heap.size+1+1+1+1,0,none⟩ (pQ tb)).setCell ⟨w.heap.size+1+1+1+1,1,none⟩ (nU key)).setCell ⟨w.heap.size+1+1+1+1,2,none⟩ (nU hash)).setCell ⟨w.heap.size+1+1+1+1,3,none⟩ (.pointer none)).setCell ⟨w.heap.size+1+1+1+1,4,none⟩ (.int .i64 (-1))).setCell ⟨w.heap.size+1+1+1+1,5,none⟩ (.pointer fp)).setCell ⟨w.heap.size+1+1+1+1,6,none⟩ (.int .i64 sv):=⟨_,rfl⟩;have M6:Mod [w.heap.size+1+1+1+1] V w6:=l9▸((((((((Mod.refl [w.heap.size+1+1+1+1] V).ak (.inl (by simp)) _ _).ak (.inl (by simp)) _ _).ak (.inl (by simp)) _ _).ak (.inl (by simp)) _ _).ak (.inl (by simp)) _ _).ak (.inl (by simp)) _ _).ak (.inl (by simp)) _ _)
  have O6:KeepsOthers V w6:=l9▸((((((((KeepsOthers.refl V).trans (KeepsOthers.setCell _ ⟨w.heap.size+1+1+1+1,0,none⟩ (pQ tb))).trans (KeepsOthers.setCell _ ⟨w.heap.size+1+1+1+1,1,none⟩ (nU key))).trans (KeepsOthers.setCell _ ⟨w.heap.size+1+1+1+1,2,none⟩ (nU hash))).trans (KeepsOthers.setCell _ ⟨w.heap.size+1+1+1+1,3,none⟩ (.pointer none))).trans (KeepsOthers.setCell _ ⟨w.heap.size+1+1+1+1,4,none⟩ (.int .i64 (-1)))).trans (KeepsOthers.setCell _ ⟨w.heap.size+1+1+1+1,5,none⟩ (.pointer fp))).trans (KeepsOthers.setCell _ ⟨w.heap.size+1+1+1+1,6,none⟩ (.int .i64 sv)))
  have B6:aj w6 (w.heap.size+1+1+1+1) 205 (dV tb key hash none (-1) fp sv):=by
   have:=(((((((tY).ak 0 (pQ tb)).ak 1 (nU key)).ak 2 (nU hash)).ak 3 (.pointer none)).ak 4 (.int .i64 (-1))).ak 5 (.pointer fp)).ak 6 (.int .i64 sv);rw[l9];simpa only[List.setIfInBounds_toArray,List.set_cons_zero,List.set_cons_succ,dV]using this
  have SC:=O6.same D _ rJ rfl;have xR:=Ab B6 (grownBy_putObj' w6 D (.deferred none)) (fun r e=>by cases e;exact⟨_,SC,rfl⟩);have hMP:=Ep (QH.mod M6 (by simp;omega)) (grownBy_putObj' w6 D (.deferred none)) (fun r e=>by cases e;exact⟨_,SC,rfl⟩);have QF:Mod [mb] w (w6.putObj D (.deferred none)):=(dN (dN (dN (aY.of_below (Ac.trans (hb1.mono Ac.size))) (mZ oK (by omega) (by simp;omega))) (mZ (M6.wW (Nat.le_refl _)) (by have:=oK.size;omega) (by simp;omega))) (xG (w:=w) (Nat.le_refl _) w6 D _ _ (by omega) SC rfl rfl)).mod;have HE:=qd (And.intro hMP QF);have Vd:=qd l9;have HSe:=qd hse;have Hsv:=qd YG;clear l9 M6 O6 B6 hMP QF hse YG;go_wp2;rw[←Vd.out];refine xH ⟨by simp,.inl ⟨_,_,rfl,run_takeDeferred SC, ?_⟩⟩;have d0:=xR.cell 0;have d1:=xR.cell 1;have d2:=xR.cell 2;have d3:=xR.cell 3;have d4:=xR.cell 4;have d5:=xR.cell 5;have d6:=xR.cell 6;simp only[dV,List.getElem?_toArray,List.getElem?_cons_zero,List.getElem?_cons_succ]at d0 d1 d2 d3 d4 d5 d6;refine⟨.agg (dV tb key hash none (-1) fp sv), ?_,none,fp, ?_⟩
  ·simp[results,Tryz.f105,go_sem,d0,d1,d2,d3,d4,d5,d6,dV]
  ·rw[HSe.out];exact⟨by rw[Hsv.out];rfl,(fun i s hab=>by cases hab),hfp,HE.out.1,HE.out.2⟩
 case stop=>
  rintro D cd pre V hD ⟨j,hj,hj2⟩ ⟨⟨rfl,pre',x,ap,fp,he,hps,hend,tY,hap,hfp,QH⟩,oK⟩ rJ;subst he;have hse:=U9 hj2 hps hend;have hc0:=tY.cell 0;have hc1:=tY.cell 1;have hc2:=tY.cell 2;have hc3:=tY.cell 3;have hc4:=tY.cell 4;have CW:=tY.cell 5;have hc6:=tY.cell 6;have xR:aj (V.putObj D (.deferred none)) (w.heap.size+1+1+1+1) 205 _:=Ab tY (grownBy_putObj' V D (.deferred none)) (fun r e=>by cases e;exact⟨_,rJ,rfl⟩);have hMP:=Ep QH (grownBy_putObj' V D (.deferred none)) (fun r e=>by cases e;exact⟨_,rJ,rfl⟩)
  gi_wp2
  refine xH ⟨by simp,.inl ⟨_,_,rfl,run_takeDeferred rJ, ?_⟩⟩;have d0:=xR.cell 0;have d1:=xR.cell 1;have d2:=xR.cell 2;have d3:=xR.cell 3;have d4:=xR.cell 4;have d5:=xR.cell 5;have d6:=xR.cell 6;simp only[dV,List.getElem?_toArray,List.getElem?_cons_zero,List.getElem?_cons_succ]at d0 d1 d2 d3 d4 d5 d6;refine⟨.agg (dV tb key hash ap (bO (wY T.gs key hash x.val)) fp (bO (fE T.gs (vals (pre'++[x]))))), ?_,ap,fp, ?_⟩
  ·simp[results,Tryz.f105,go_sem,d0,d1,d2,d3,d4,d5,d6,dV]
  ·rw[hse];exact⟨rfl,hap,hfp,hMP,(dN oK (xG (w:=w) (Nat.le_refl _) V D _ _ (by have:=Ac.size;omega) rJ rfl rfl)).mod⟩
end Go.Proofs.YtnfjjbpmhcbelaaGreatDoor

/-! Where a seek ends: the places are of the table. No program in sight. -/
namespace Go.Proofs.YtnfjjbpmhcbelaaGreatDoor.dI
set_option maxRecDepth 100000
set_option maxHeartbeats 4000000
open Go.RowKit Go.Shelf dI Go
theorem SE {G:kP}{s:Nat}(h:kW G=some s):s<G.length∧(G.getD s .empty).isFull=false:=by
 obtain⟨hk,hp,_⟩:=List.findIdx?_eq_some_iff_getElem.1 h;refine⟨hk, ?_⟩;rw[getD_in hk];simpa using hp
def Dc (gs:Tab)(x:Option (Nat×Nat)):Prop:=∀i s,x=some (i,s)→i<gs.length∧s<(gs.getD i []).length∧(aF gs i s).isFull=false
theorem Vf {gs:Tab}{fr:Option (Nat×Nat)}(h:Dc gs fr){i:Nat}(hi:i<gs.length):Dc gs (iH fr i (gs.getD i [])):=by
 intro a b hab
 cases fr with
 |some x=>exact h a b hab
 |none=>
  unfold iH at hab;dsimp only at hab
  cases hg:kW (gs.getD i [])with
  |none=>rw[hg]at hab;cases hab
  |some s=>
   rw[hg]at hab;cases hab;exact⟨hi,SE hg⟩
theorem Kz (gs:Tab)(key hash:Nat):∀(l:List Nat) (fr:Option (Nat×Nat)),(∀i∈l,i<gs.length)→Dc gs fr→Dc gs (jO gs key hash l fr).2.1
 | [],_,_,h=>h
 |i::is,fr,hl,h=>by
  have h1:=Vf h (hl i (by simp));have ih:=Kz gs key hash is _ (fun x hx=>hl x (by simp[hx])) h1;rw[jO]
  cases gT (gs.getD i []) key hash with
  |some s=>exact h1
  |none=>
   cases dH (gs.getD i [])with
   |true=>exact h1
   |false=>exact ih
theorem walk_lt {h n i:Nat}(hn:0<n)(hi:i∈walk h n):i<n:=by
 obtain⟨j,_,rfl⟩:=List.mem_map.1 hi;exact Nat.mod_lt _ hn
theorem zD (gs:Tab)(hn:0<gs.length)(key hash:Nat):Dc gs (aJ gs key hash).2.1:=by
 rw[yS];exact Kz gs key hash _ none (fun i hi=>walk_lt hn hi) (fun _ _ h=>by cases h)
theorem vG {gs:Tab}{key hash i s:Nat}(h:(aJ gs key hash).1=some (i,s)):∃e,aF gs i s= .full e∧e.key=key∧i<gs.length∧s<(gs.getD i []).length:=by
 obtain⟨e,h1,h2,_⟩:=Hr h;have:=jY (gs:=gs) (i:=i) (s:=s) (by rw[h1];simp);exact⟨e,h1,h2,this⟩
end Go.Proofs.YtnfjjbpmhcbelaaGreatDoor.dI
