/- A table's Seek by its contract. -/
import Derived.Test.YtjfgpnapccdnlaaGreatDoorCoU
import Derived.Test.YtjfgpnapccdnlaaGreatDoorSqT
import Derived.Test.YtjfgpnapccdnlaaGreatDoorBuilder
import Derived.Test.YtjfgpnapccdnlaaGreatDoorTabS
namespace Go.Proofs.YtjfgpnapccdnlaaGreatDoor
set_option maxRecDepth 100000
set_option maxHeartbeats 4000000
open Go.RowKit Go.Shelf dF
variable {S : List Nat} {X Y w w' : World} {row : Option Nat} {t : TypeId} {n : Nat}
attribute [local go_sem] Oper.semAt_some
def gB (a c:bF):Nat→bF
 |0=>a
 |k+1=>je (gB a c k) c
theorem Mod.cell_ (h:Mod S w w'){p:Addr}(hp:p.block<w.heap.size)(hs:p.block∉S):w'.cell? p=w.cell? p:=World.cell?_of_block (w:=w) (h.block p.block hp hs)
theorem iW {B:Nat}(h:Mod S w w')(hS:∀k,k∈S→k<B):KeepsFrom B w w':=⟨h.size,fun k o hB hk _=>(h.block k (Array.getElem?_eq_some_iff.1 hk).1 (fun hh=>absurd (hS k hh) (by omega))).trans hk⟩
theorem mM {n₀ n₁:Nat}{T:List Nat}{A B:World}(h:aT n₀ S A B)(hn:n₁≤n₀)(hS:∀k,k<n₁→k∈S→k∈T):aT n₁ T A B:=⟨h.os,h.tape,h.output,h.size,fun k hk hT=>h.block k (by omega) (fun hh=>hT (hS k hk hh))⟩
theorem Ak {g:Nat}{cs:Array Value}(h:aj X g t cs)(hg:X.grownBy Y row)(hr:∀r,row=some r→∃o:Obj,X.heap[r]?=some o∧o.isCells=false):aj Y g t cs:=by
 refine(hg.block g h.lt (fun e=> ?_)).trans h;obtain⟨o,ho,hc⟩:=hr g e.symm;rw[show X.heap[g]?=_ from h]at ho;cases ho;cases hc
theorem EJ {mb:Nat}{pre post:List Value}{mo:Nat}{a l:bF}{m:Int}(h:Met X mb t pre post mo a l m)(hg:X.grownBy Y row)(hr:∀r,row=some r→∃o:Obj,X.heap[r]?=some o∧o.isCells=false):Met Y mb t pre post mo a l m:=⟨h.len,Ak h.blk hg hr⟩
def dz (x:Option (Nat×Nat)):Int:=match x with
 |some y=>(y.2:Int)
 |none=> -1
def dP (tb key hash:Nat)(ap:Option Addr)(as_:Int)(fp:Option Addr)(fs:Int):Array Value:= #[.pointer (some ⟨tb,0,none⟩),.int .u64 (key:Int),.int .u64 (hash:Int),.pointer ap,.int .i64 as_,.pointer fp,.int .i64 fs]
def gV (gb:Nat)(x:Option (Nat×Nat))(p:Option Addr):Prop:=∀i s,x=some (i,s)→p=some ⟨gb,i*25,none⟩
def vals {n:Nat}(pre:List (Fin n)):List Nat:=pre.map Fin.val
theorem y8 (pre:List (Fin n))(x:Fin n):vals (pre++[x])=vals pre++[x.val]:=by simp[vals]
def wT (gs:Tab)(key hash i:Nat):Option (Nat×Nat):=(gJ (gs.getD i []) key hash).map fun s=>(i,s)
theorem Wy {gs:Tab}{key hash:Nat}{pre:List (Fin n)}{x:Fin n}{j:Nat}(hj:vals (pre++[x])=(walk (hash/128) gs.length).take j)(h:∀y∈pre,Passed gs key hash y.val)(he:gJ (gs.getD x.val []) key hash≠none∨dA (gs.getD x.val [])=true):aK gs key hash=(wT gs key hash x.val,fD gs (vals (pre++[x])),(pre++[x]).length):=by
 have hw:vals pre++x.val::(walk (hash/128) gs.length).drop j=walk (hash/128) gs.length:=by
  have:=List.take_append_drop j (walk (hash/128) gs.length);rw[←hj,y8,List.append_assoc]at this;exact this
 have hp:∀i∈vals pre,Passed gs key hash i:=fun i hi=>by
  obtain⟨y,hy,rfl⟩:=List.mem_map.1 hi;exact h y hy
 have hlen:(vals pre++[x.val]).length=(pre++[x]).length:=by simp[vals]
 unfold wT;rw[y8,←hlen]
 cases hf:gJ (gs.getD x.val []) key hash with
 |some s=>exact Zn hw hp hf
 |none=>
  rcases he with he|he
  ·exact absurd hf he
  ·exact Wx hw hp hf he
theorem IV (tb gb key hash:Nat)(T:aD)(mb:Nat)(mt:TypeId)(mD jH:List Value)(mo:Nat)(a0 l0:bF)(m:Int)(c:bF)(w:World)(h:TabAt w tb gb T)(hP:Pw T.gs.length)(h64:hash<18446744073709551616)(hM:Met w mb mt mD jH mo a0 l0 m)(hmt:mb≠tb)(lX:mb≠gb)(hT:gF w)(hz:21 ≠mb):
  Calls Tryz.prog 90 #[cK tb,aN (some ⟨mb,mo,none⟩) c,.int .u64 (key:Int),.int .u64 (hash:Int)] w fun e w'=>∃ap fp,e= .returned (dB tb key hash ap (dz (aK T.gs key hash).1) fp (dz (aK T.gs key hash).2.1))∧
   (∀i s,(aK T.gs key hash).1=some (i,s)→ap=some ⟨gb,i*25,none⟩)∧(∀i s,(aK T.gs key hash).2.1=some (i,s)→fp=some ⟨gb,i*25,none⟩)∧
   Met w' mb mt mD jH mo (gB a0 c (aK T.gs key hash).2.2) (gB l0 c (aK T.gs key hash).2.2) m∧Mod [mb] w w':=by
 obtain⟨W,hW,hB,hA,hL,hK,hH,hR⟩:=qX5 w 181 #[.pointer (some ⟨tb,0,none⟩)] 145 #[.pointer (some ⟨mb,mo,none⟩),.int .i64 c.p,.int .i64 c.v,.int .i64 c.u] 28 #[.int .u64 (key:Int)] 28 #[.int .u64 (hash:Int)] 202 #[.pointer none,.int .u64 0,.int .u64 0,.pointer none,.int .i64 0,.pointer none,.int .i64 0];have nY:=h.below hB;have hMW:=hM.below hB;have HW:=qd hW;have HB:=qd hB;have hg:=World.block_lt_of_cell? w _ (hT 0 (by omega));have htl:=h.aU;have hgl:=h.aV;have hml:=hM.lt;unfold cK aN dB;clear hW hB h hM;refine(callsIn_wide (n:=10)).1 ?_
 have h1:1≤10:=by omega
 refine lu Tryz.func90 rfl trivial rfl ?_;simp only[Tryz.ntmps90,List.size_toArray,List.length_cons,List.length_nil,Nat.reduceAdd,Nat.reduceSub,Array.replicate_succ,Array.replicate_zero,List.push_toArray,List.append_toArray,List.nil_append,List.cons_append];refine wpIn_wide.2 ?_;go_upto_region 1 with fail;rw[←HW.out];have ca0:=hA.cell 0;simp only[List.getElem?_toArray,List.getElem?_cons_zero]at ca0;have ck0:=hK.cell 0;simp only[List.getElem?_toArray,List.getElem?_cons_zero]at ck0;have ch0:=hH.cell 0;simp only[List.getElem?_toArray,List.getElem?_cons_zero]at ch0;go_upto_region 2 with fail;have hSp:=aj.new W 202 #[.pointer (some ⟨tb,0,none⟩),.int .u64 (key:Int),.int .u64 (hash:Int),.pointer none,.int .i64 (-1),.pointer none,.int .i64 (-1)];have hBW:=(Below.refl W.heap.size W).alloc (Nat.le_refl _) (.cells #[.pointer (some ⟨tb,0,none⟩),.int .u64 (key:Int),.int .u64 (hash:Int),.pointer none,.int .i64 (-1),.pointer none,.int .i64 (-1)] 202);obtain⟨W1,hW1⟩:∃W1,W1=W.alloc (.cells #[.pointer (some ⟨tb,0,none⟩),.int .u64 (key:Int),.int .u64 (hash:Int),.pointer none,.int .i64 (-1),.pointer none,.int .i64 (-1)] 202):=⟨_,rfl⟩;rw[←hW1]at hSp hBW⊢;have HW1:=qd hW1;clear hW1;have hT1:=nY.below hBW;have hM1:=hMW.below hBW;have ht:=aA hBW ca0;have hh:=aA hBW ch0;have hc:=hT1.cells.1;have dY:Below w.heap.size w W1:=bP hBW HB.out;have hlR:=hR.lt;have agA:=hSp.lt
 refine rT (fun(w':World)=>w'.cell? ⟨w.heap.size+1+1+1,0,none⟩=some (.int .u64 (hash:Int))∧w'.cell? ⟨w.heap.size,0,none⟩=some (.pointer (some ⟨tb,0,none⟩))∧w'.cell? ⟨tb,0,none⟩=some (.slice (some ⟨gb,0,none⟩) T.gs.length T.gs.length)) [] ?_;have hHeld:=(⟨hh,ht,hc⟩:_∧_∧_);refine vT 0 rfl ?_;refine vT 2 rfl ?_;refine vW 3 rfl ?_;refine vW 4 rfl ?_;refine vT 5 rfl ?_;refine vW 6 rfl ?_;refine nT 1 rfl fun K hK=> ?_;go_simp;refine(YU hash _).mono ?_;rintro e w1 ⟨rfl,rfl⟩;go_wp2_with fail;have hHeld:=(⟨hh,ht,hc⟩:_∧_∧_);refine kO hK ?_;clear hK K;refine nT 7 rfl fun K hK=> ?_;go_simp;refine(TY (hash/128) T.gs.length _).mono ?_;rintro e w1 ⟨rfl,hw1⟩;have hb1:Below W1.heap.size W1 w1:=hw1▸(((Below.refl W1.heap.size W1).drew).alloc (Nat.le_refl _) _).alloc (by simp) _;have Co:aj w1 W1.heap.size 28 #[.int .u64 ((hash/128:Nat):Int)]:=hw1▸(aj.new W1.drew _ _).alloc _
 have hBg:aj w1 (W1.heap.size+1) 3 #[.int .i64 (T.gs.length:Int)]:=by rw[←hw1];have h0:=aj.new (W1.drew.alloc (.cells #[.int .u64 ((hash/128:Nat):Int)] 28)) 3 #[.int .i64 (T.gs.length:Int)];rw[show(W1.drew.alloc (.cells #[.int .u64 ((hash/128:Nat):Int)] 28)).heap.size=W1.heap.size+1 by simp]at h0;exact h0
 clear hw1;go_wp2_with fail;replace hh:=aA hb1 hh;replace ht:=aA hb1 ht;replace hc:=aA hb1 hc;have hHeld:=(⟨hh,ht,hc⟩:_∧_∧_);refine kO hK ?_;clear hK K;refine aX (by kernel_rfl) ?_ _;go_wp2_with fail;refine(wpIn_wide (n:=10)).1 ?_;have hA1:=(hA.below hBW hA.lt).below hb1 (hA.below hBW hA.lt).lt;have hL1:=(hL.below hBW hL.lt).below hb1 (hL.below hBW hL.lt).lt;have hK1:=(hK.below hBW hK.lt).below hb1 (hK.below hBW hK.lt).lt;have hH1:=(hH.below hBW hH.lt).below hb1 (hH.below hBW hH.lt).lt;have xQ:=(hR.below hBW hR.lt).below hb1 (hR.below hBW hR.lt).lt;have hTw:=hT1.below hb1;have ac6:gF w1:=fun i hi=>((dY.trans (hb1.mono dY.size)).cell (p:=⟨21,pJ i,none⟩) hg).trans (hT i hi);have hbl:=hb1.size
 have hgs:21 <w1.heap.size:=by have:=dY.size;omega
 refine wpIn_rangeFunc_ownH rfl h1 (gf:=202) (lb:= #[.pointer (some ⟨W1.heap.size+1,0,none⟩),.pointer (some ⟨W1.heap.size,0,none⟩)]) rfl trivial (enters_of Tryz.func202 (by kernel_rfl) rfl)
  (T9 (10-1) (by omega) (W1.heap.size+1) W1.heap.size w1.heap.size [W.heap.size,mb] (hash/128) T.gs.length (by omega) hP w1 hBg.lt (by simp;omega) Co.lt (Nat.le_refl _) (hBg.cell 0) (Co.cell 0)) dI (xC (Nat.le_refl _)) (Below.refl _ _) (fun _=>rfl)
  (fun pre V=>((∃fp,aj V W.heap.size 202 (dP tb key hash none (-1) fp (dz (fD T.gs (vals pre))))∧gV gb (fD T.gs (vals pre)) fp)∧Met V mb mt mD jH mo (gB a0 c pre.length) (gB l0 c pre.length) m∧∀y∈pre,Passed T.gs key hash y.val)∧aT w1.heap.size [W.heap.size,mb] w1 V)
  (fun cd pre V=>(cd= .ret∧∃pre' x ap fp,pre=pre'++[x]∧(∀y∈pre',Passed T.gs key hash y.val)∧(gJ (T.gs.getD x.val []) key hash≠none∨dA (T.gs.getD x.val [])=true)∧
   aj V (w.heap.size+1+1+1+1) 202 (dP tb key hash ap (dz (wT T.gs key hash x.val)) fp (dz (fD T.gs (vals pre))))∧gV gb (wT T.gs key hash x.val) ap∧gV gb (fD T.gs (vals pre)) fp∧
   Met V mb mt mD jH mo (gB a0 c pre.length) (gB l0 c pre.length) m)∧aT w.heap.size [mb] w V)
  (OwnFrom.and (fun _ X Y row hs hg hr=>by
   obtain⟨⟨fp,h2,h3⟩,h4,h5⟩:=hs
   exact⟨⟨fp,Ak h2 hg (fun r e=>(hr r e).2),h3⟩,EJ h4 hg (fun r e=>(hr r e).2),h5⟩) (qD (Nat.le_refl _) (Nat.le_refl _)))
  (fun cd=>OwnFrom.and (fun _ X Y row hs hg hr=>by
   obtain⟨h0,pre',x,ap,fp,h2,h3,h4,h5,h6,h7,h8⟩:=hs
   exact⟨h0,pre',x,ap,fp,h2,h3,h4,Ak h5 hg (fun r e=>(hr r e).2),h6,h7,EJ h8 hg (fun r e=>(hr r e).2)⟩) (qD (Nat.le_refl _) (by have:=dY.size;omega)))
  ⟨⟨⟨none,hSp.below hb1 hSp.lt,fun i s he=>by cases he⟩,hM1.below hb1,by simp⟩,aT.refl _ _ _⟩
  (fun x a' _=>a'={tmps:= #[.pointer (some ⟨tb,0,none⟩),.agg #[.pointer (some ⟨mb,mo,none⟩),.int .i64 c.p,.int .i64 c.v,.int .i64 c.u],.int .u64 (key:Int),.int .u64 (hash:Int),.pointer (some ⟨w.heap.size,0,none⟩),.pointer (some ⟨w.heap.size+1,0,none⟩),.pointer (some ⟨w.heap.size+1+1,0,none⟩),.pointer (some ⟨w.heap.size+1+1+1,0,none⟩),.pointer (some ⟨w.heap.size+1+1+1+1,0,none⟩),.pointer (some ⟨W.heap.size,0,none⟩),.int .i64 (x.val:Int),undef,undef,.pointer (some ⟨tb,0,none⟩),.int .u64 (key:Int),.int .u64 (hash:Int),.agg #[.pointer none,.int .i64 (-1)],.agg #[.pointer none,.int .i64 (-1)],.agg #[.pointer (some ⟨tb,0,none⟩),.int .u64 (key:Int),.int .u64 (hash:Int),.pointer none,.int .i64 (-1),.pointer none,.int .i64 (-1)],.int .u64 (hash:Int),.int .u64 ((hash:Int)/128),.pointer (some ⟨tb,0,none⟩),.pointer (some ⟨tb,0,none⟩),.pointer (some ⟨tb,0,none⟩),.slice (some ⟨gb,0,none⟩) T.gs.length T.gs.length,.int .i64 (T.gs.length:Int),.func (.func 202) #[] #[.pointer (some ⟨W1.heap.size+1,0,none⟩),.pointer (some ⟨W1.heap.size,0,none⟩)],.int .i64 (x.val:Int),undef,undef,undef,undef,undef,undef,undef,undef,undef,undef,undef,undef,undef,undef,undef,undef,undef,undef,undef,undef,undef,undef,undef,undef,undef,undef,undef,undef,undef,undef,undef,undef],defers:=[]})
  (fun _ _ _ _ _ _ hs _ _=>hs) ?assign ?body ?done ?stop
 case assign=>
  rintro lp pre x V K hi hK
  gi_wp2
  exact hK _ _ (KeepsFrom.refl _ _) (aT.refl _ _ _) hi rfl
 case body=>
  rintro lp pre x a' V hl ⟨r,hr⟩ ⟨⟨⟨fp,Dm,hfp⟩,RX,hps⟩,oL⟩ rfl hlt;have hAV:=oL.blk hA1 (by omega) (by simp;omega);have hLV:=oL.blk hL1 (by omega) (by simp;omega);have hTV:=hTw.keep oL (by omega) (by omega) (by simp;omega) (by simp;omega);have hxn:x.val<T.gs.length:=x.isLt;have Zo:=hP.le
  have hxi:(x.val:Int)<(T.gs.length:Int):=by omega
  have hx0:(0:Int)≤(x.val:Int):=by omega
  have Dj:=oL.size;have t0:=hAV.cell 0;simp only[List.getElem?_toArray,List.getElem?_cons_zero]at t0;obtain⟨Oy,Oz,OA,OB⟩:=hLV.c4;have hc:=hTV.cells.1;have HS:=qd (fun(wX:World) (M:Mod [mb] V wX)=>show(fun(w':World)=>w'.cell? ⟨w.heap.size,0,none⟩=some (.pointer (some ⟨tb,0,none⟩))∧w'.cell? ⟨tb,0,none⟩=some (.slice (some ⟨gb,0,none⟩) T.gs.length T.gs.length)∧w'.cell? ⟨w.heap.size+1,0,none⟩=some (.pointer (some ⟨mb,mo,none⟩))∧w'.cell? ⟨w.heap.size+1,1,none⟩=some (.int .i64 c.p)∧w'.cell? ⟨w.heap.size+1,2,none⟩=some (.int .i64 c.v)∧w'.cell? ⟨w.heap.size+1,3,none⟩=some (.int .i64 c.u)) wX from⟨(M.cell_ (p:=⟨w.heap.size,0,none⟩) (by show w.heap.size<_;omega) (by simp;omega)).trans t0,(M.cell_ (p:=⟨tb,0,none⟩) (by show tb<_;omega) (by simp;omega)).trans hc,(M.cell_ (p:=⟨w.heap.size+1,0,none⟩) (by show w.heap.size+1<_;omega) (by simp;omega)).trans Oy,(M.cell_ (p:=⟨w.heap.size+1,1,none⟩) (by show w.heap.size+1<_;omega) (by simp;omega)).trans Oz,(M.cell_ (p:=⟨w.heap.size+1,2,none⟩) (by show w.heap.size+1<_;omega) (by simp;omega)).trans OA,(M.cell_ (p:=⟨w.heap.size+1,3,none⟩) (by show w.heap.size+1<_;omega) (by simp;omega)).trans OB⟩)
  gi_wp2_with fail
  refine aeR (fun a' w2=>∃vb,a'={tmps:= #[.pointer (some ⟨tb,0,none⟩),.agg #[.pointer (some ⟨mb,mo,none⟩),.int .i64 c.p,.int .i64 c.v,.int .i64 c.u],.int .u64 (key:Int),.int .u64 (hash:Int),.pointer (some ⟨w.heap.size,0,none⟩),.pointer (some ⟨w.heap.size+1,0,none⟩),.pointer (some ⟨w.heap.size+1+1,0,none⟩),.pointer (some ⟨w.heap.size+1+1+1,0,none⟩),.pointer (some ⟨w.heap.size+1+1+1+1,0,none⟩),.pointer (some ⟨W.heap.size,0,none⟩),.int .i64 (x.val:Int),.pointer (some ⟨vb,0,none⟩),undef,.pointer (some ⟨tb,0,none⟩),.int .u64 (key:Int),.int .u64 (hash:Int),.agg #[.pointer none,.int .i64 (-1)],.agg #[.pointer none,.int .i64 (-1)],.agg #[.pointer (some ⟨tb,0,none⟩),.int .u64 (key:Int),.int .u64 (hash:Int),.pointer none,.int .i64 (-1),.pointer none,.int .i64 (-1)],.int .u64 (hash:Int),.int .u64 ((hash:Int)/128),.pointer (some ⟨tb,0,none⟩),.pointer (some ⟨tb,0,none⟩),.pointer (some ⟨tb,0,none⟩),.slice (some ⟨gb,0,none⟩) T.gs.length T.gs.length,.int .i64 (T.gs.length:Int),.func (.func 202) #[] #[.pointer (some ⟨W1.heap.size+1,0,none⟩),.pointer (some ⟨W1.heap.size,0,none⟩)],.int .i64 (x.val:Int),.pointer (some ⟨tb,0,none⟩),.pointer (some ⟨tb,0,none⟩),.pointer (some ⟨tb,0,none⟩),.slice (some ⟨gb,0,none⟩) T.gs.length T.gs.length,.int .i64 (x.val:Int),.pointer (some ⟨gb,x.val*25,none⟩),.agg #[.pointer (some ⟨mb,mo,none⟩),.int .i64 c.p,.int .i64 c.v,.int .i64 c.u],.agg #[.pointer (some ⟨gb,x.val*25,none⟩)],undef,undef,undef,undef,undef,undef,undef,undef,undef,undef,undef,undef,undef,undef,undef,undef,undef,undef,undef,undef,undef,undef,undef,undef],defers:=[]}∧aj w2 vb 198 #[.pointer (some ⟨gb,x.val*25,none⟩)]∧V.heap.size≤vb∧Met w2 mb mt mD jH mo (je (gB a0 c pre.length) c) (je (gB l0 c pre.length) c) m∧Mod [mb] V w2) ?_ ?_
  ·refine Bv (fun(w':World)=>w'.cell? ⟨w.heap.size,0,none⟩=some (.pointer (some ⟨tb,0,none⟩))∧w'.cell? ⟨tb,0,none⟩=some (.slice (some ⟨gb,0,none⟩) T.gs.length T.gs.length)∧w'.cell? ⟨w.heap.size+1,0,none⟩=some (.pointer (some ⟨mb,mo,none⟩))∧w'.cell? ⟨w.heap.size+1,1,none⟩=some (.int .i64 c.p)∧w'.cell? ⟨w.heap.size+1,2,none⟩=some (.int .i64 c.v)∧w'.cell? ⟨w.heap.size+1,3,none⟩=some (.int .i64 c.u)) [] (by kernel_rfl) (by kernel_rfl) (by rintro⟨_,_,h⟩;exact h) ?_
   try (change bN _ _ _ _ _ _ _ _ _ (World.drew _))
   have hHeld:=(⟨t0,hc,Oy,Oz,OA,OB⟩:_∧_∧_∧_∧_∧_);refine vT 0 rfl ?_;refine vW 1 rfl ?_;refine vW 2 rfl ?_;refine vT 3 rfl ?_;refine vW 4 rfl ?_;refine vW 5 rfl ?_;refine vT 6 rfl ?_;refine pairT (i:=7) (j:=8) (o:=⟨some 35,_,_,_,_,_⟩) (o':=⟨some 11,_,_,_,_,_⟩) rfl rfl (by kernel_rfl) (fun K hK=> ?_) (fun K hK=> ?_)
   ·go_simp;refine(wR ⟨gb,x.val*25,none⟩ mb mt mD jH mo _ _ m c _ (RX.below (Below.refl _ _).drew)).mono ?_;rintro e w2 ⟨rfl,hM2,hm2⟩;simp only[bg];go_wp2_with fail;have M7:Mod [mb] V w2:=(Mod.drewN [mb] V 1).then hm2;refine hK.out _ _ (fun _=>HS.out _ M7) ?_;clear hK K
    try simp only[pt]
    refine nT 8 rfl fun K hK=> ?_;go_simp;have M8:Mod [mb] V (w2.alloc (.cells #[.pointer none] 198)):=M7.alloc _;have Dn:=aj.new w2 198 #[.pointer none];have RY:=hM2.below ((Below.refl w2.heap.size w2).alloc (Nat.le_refl _) (.cells #[.pointer none] 198));have aeT:=M7.size;obtain⟨w3,hw3⟩:∃w3,w3=w2.alloc (.cells #[.pointer none] 198):=⟨_,rfl⟩;rw[←hw3]at M8 Dn RY⊢;clear hw3;refine hK.out _ _ (fun _=>HS.out _ M8) ?_;clear hK K
    try simp only[pt]
    refine nT 9 rfl fun K hK=> ?_;have n0:=Dn.cell 0;simp only[List.getElem?_toArray,List.getElem?_cons_zero]at n0;have nf:=Dn.frozen 0;go_simp;have M9:=M8.ak (b:=w2.heap.size) (.inr (by omega)) 0 (.pointer (some ⟨gb,x.val*25,none⟩));refine hK.out _ _ (fun _=>HS.out _ M9) ?_;clear hK K
    try simp only[pt]
    refine aX (by kernel_rfl) ?_ _;exact⟨w2.heap.size,rfl,Dn.ak 0 _,aeT,⟨RY.len,RY.blk.far (p:=⟨w2.heap.size,0,none⟩) (by show mb≠w2.heap.size;omega) _⟩,M9⟩
   ·go_simp;have M8:Mod [mb] V (V.alloc (.cells #[.pointer none] 198)).drew:=((Mod.refl [mb] V).alloc _).then (Mod.drewN [mb] _ 1);have Dn:aj (V.alloc (.cells #[.pointer none] 198)).drew V.heap.size 198 #[.pointer none]:=(aj.new V _ _).drew;have RY:=RX.below (((Below.refl V.heap.size V).alloc (Nat.le_refl _) (.cells #[.pointer none] 198)).drew);obtain⟨w3,hw3⟩:∃w3,w3=(V.alloc (.cells #[.pointer none] 198)).drew:=⟨_,rfl⟩;rw[←hw3]at M8 Dn RY⊢;clear hw3;refine hK.out _ _ (fun _=>HS.out _ M8) ?_;clear hK K
    try simp only[pt]
    refine nT 7 rfl fun K hK=> ?_;go_simp;refine(wR ⟨gb,x.val*25,none⟩ mb mt mD jH mo _ _ m c _ RY).mono ?_;rintro e w2 ⟨rfl,hM2,hm2⟩;simp only[bg];go_wp2_with fail;have M7:Mod [mb] V w2:=M8.then hm2;replace Dn:=Dn.mod hm2 (by simp;omega);refine hK.out _ _ (fun _=>HS.out _ M7) ?_;clear hK K
    try simp only[pt]
    refine nT 9 rfl fun K hK=> ?_;have n0:=Dn.cell 0;simp only[List.getElem?_toArray,List.getElem?_cons_zero]at n0;have nf:=Dn.frozen 0;go_simp;have M9:=M7.ak (b:=V.heap.size) (.inr (Nat.le_refl _)) 0 (.pointer (some ⟨gb,x.val*25,none⟩));refine hK.out _ _ (fun _=>HS.out _ M9) ?_;clear hK K
    try simp only[pt]
    refine aX (by kernel_rfl) ?_ _;exact⟨V.heap.size,rfl,Dn.ak 0 _,Nat.le_refl _,⟨hM2.len,hM2.blk.far (p:=⟨V.heap.size,0,none⟩) (by show mb≠V.heap.size;omega) _⟩,M9⟩
  ·rintro a' w2 ⟨vb,rfl,Wz,hvb,hM2,hm2⟩;simp only[Array.mk.injEq];have hK2:aT w1.heap.size [W.heap.size,mb] w1 w2:=dI oL ((hm2.more (T:=[W.heap.size,mb]) (by simp)).wS Dj);have Zp:aT w1.heap.size [W.heap.size,mb] V w2:=(hm2.more (T:=[W.heap.size,mb]) (by simp)).wS Dj;have jS:=hTV.mod hm2 (by simp;omega) (by simp;omega);have hS2:=Dm.mod hm2 (by simp;omega);have Zq:=hK2.blk hK1 (by omega) (by simp;omega);have Zr:=hK2.blk hH1 (by omega) (by simp;omega);have hR2:=hK2.blk xQ (by omega) (by simp;omega);have Zt:gF w2:=hK2.tz hgs (by simp;omega) ac6;have Zu:KeepsFrom w1.heap.size V w2:=iW hm2 (by simp;omega);have agB:w1.heap.size≤vb:=Nat.le_trans Dj hvb;cases hfr:fD T.gs (vals pre)
   case' some y=>
    have hfr2:fD T.gs (vals (pre++[x]))=some y:=by rw[y8,uK,hfr];rfl
    rw[hfr]at hS2 hfp;obtain⟨wq,hwq⟩:∃wq,wq=w2:=⟨_,rfl⟩;obtain⟨wH,JQ⟩:∃wH,wH=fp:=⟨_,rfl⟩;rw[←hwq]at hS2 Wz Zq Zr hR2 jS Zt Zu hK2 Zp hM2⊢;rw[←JQ]at hS2 hfp;clear hwq JQ hm2;have Dp:=hS2;have KW:gV gb (fD T.gs (vals (pre++[x]))) wH:=hfr2▸hfp;have KX:=Wz;have hKq:=Zq;have OC:=hR2;have WA:=hM2;have Dq:=hK2;have Zv:=Zp;have Zw:=Zu;have hHq:=Zr;have hTq:=jS;have ac7:=Zt
    have hsl:¬dz (some y)<0:=by simp only[dz];omega
    generalize hsv:dz (some y)=sv at*
    have hsq:dz (fD T.gs (vals (pre++[x])))=sv:=by rw[hfr2];exact hsv
    unfold dP at Dp;obtain⟨p0,p1,p2,p3,p4,p5,p6⟩:=Dp.c7
   case' none=>
    rw[hfr]at hS2;simp only[dP,dz]at hS2;obtain⟨p0,p1,p2,p3,p4,p5,p6⟩:=hS2.c7;have v0:=Wz.cell 0;simp only[List.getElem?_toArray,List.getElem?_cons_zero]at v0;obtain⟨q0,q1,q2,q3,q4,q5,q6⟩:=hS2.f7;have OD:=qd (Zj gb _ _ _ (x.val*25) _ w2.drew ((jS.below (Below.refl _ _).drew).group x.val hxn) (fun i hi=>Zt i hi));obtain⟨fv,hfv⟩:∃fv,fv=uj (kY (T.gs.getD x.val [])):=⟨_,rfl⟩;rw[←hfv]at OD;have Hfv:=qd hfv;clear hfv
    gi_wp2_with fail
    refine Bv (fun(w':World)=>w'.cell? ⟨vb,0,none⟩=some (.pointer (some ⟨gb,x.val*25,none⟩))) [5] (by kernel_rfl) (by kernel_rfl) (by rintro⟨_,_,h⟩;exact h) ?_
    try (change bN _ _ _ _ _ _ _ _ _ (World.drew _))
    have hHeld:=v0;refine vT 0 rfl ?_;refine vT 1 rfl ?_;refine nT 2 rfl fun K hK=> ?_;go_simp;refine(OD.out).mono ?_;rintro e w3 ⟨rfl,hb3⟩;replace hb3:Below w2.heap.size w2 w3:=bP hb3 (Below.refl _ _).drew;go_wp2_with fail;have hHeld:=show(fun(w':World)=>w'.cell? ⟨vb,0,none⟩=some (.pointer (some ⟨gb,x.val*25,none⟩))) _ from aA hb3 v0;refine kO hK ?_;clear hK K;refine vW 3 rfl ?_;refine vW 4 rfl ?_;refine nT 5 rfl fun K hK=> ?_;have p5n:=aA hb3 p5;have p6n:=aA hb3 p6;have q5n:=(hS2.below hb3 hS2.lt).frozen 5;have q6n:=(hS2.below hb3 hS2.lt).frozen 6;go_simp;refine kO hK ?_;clear hK K;refine aX (by kernel_rfl) ?_ _
    have hfr2:fD T.gs (vals (pre++[x]))=(kY (T.gs.getD x.val [])).map fun s=>(x.val,s):=by rw[y8,uK,hfr];rfl
    have ac8:dz (fD T.gs (vals (pre++[x])))=uj (kY (T.gs.getD x.val [])):=by rw[hfr2];cases kY (T.gs.getD x.val [])<;>rfl
    obtain⟨wq,hwq⟩:∃wq,wq=(w3.setCell ⟨W.heap.size,5,none⟩ (.pointer (some ⟨gb,x.val*25,none⟩))).setCell ⟨W.heap.size,6,none⟩ (.int .i64 fv):=⟨_,rfl⟩;rw[←hwq];have Mq:Mod [W.heap.size] w2 wq:=hwq▸(((Mod.of_below hb3 [W.heap.size]).ak (.inl (by simp)) _ _).ak (.inl (by simp)) _ _)
    have Ue:aj wq W.heap.size 202 (dP tb key hash none (-1) (some ⟨gb,x.val*25,none⟩) fv):=by
     have:=((hS2.below hb3 hS2.lt).ak 5 (.pointer (some ⟨gb,x.val*25,none⟩))).ak 6 (.int .i64 fv);rw[hwq];simpa only[List.setIfInBounds_toArray,List.set_cons_zero,List.set_cons_succ,dP]using this
    obtain⟨wH,JQ⟩:∃wH:Option Addr,wH=some ⟨gb,x.val*25,none⟩:=⟨_,rfl⟩;rw[←JQ]at Ue
    have KW:gV gb (fD T.gs (vals (pre++[x]))) wH:=fun a b hab=>by
     rw[hfr2]at hab
     cases hg2:kY (T.gs.getD x.val [])with
     |none=>
      rw[hg2]at hab;cases hab
     |some s2=>
      rw[hg2]at hab;cases hab;exact JQ
    clear hwq JQ;have KX:=Wz.mod Mq (by simp;omega);have hKq:=Zq.mod Mq (by simp;omega);have hHq:=Zr.mod Mq (by simp;omega);have OC:=hR2.mod Mq (by simp;omega);have WA:=hM2.mod Mq (by simp;omega);have hTq:=jS.mod Mq (by simp;omega) (by simp;omega);have ac9:=hK2.size;have Dq:=dI hK2 (mM (Mq.wS (Nat.le_refl _)) ac9 (T:=[W.heap.size,mb]) (by simp;omega));have Zv:=dI Zp (mM (Mq.wS (Nat.le_refl _)) ac9 (T:=[W.heap.size,mb]) (by simp;omega));have Zw:=Zu.trans (iW Mq (by simp;omega));have ac7:gF wq:=Dq.tz hgs (by simp;omega) ac6;obtain⟨sv,Zx⟩:∃sv,sv=fv:=⟨_,rfl⟩;rw[←Zx]at Ue
    have hsq:dz (fD T.gs (vals (pre++[x])))=sv:=by rw[ac8,Zx];exact Hfv.out.symm
    clear Zx ac8;have Dp:=Ue;unfold dP at Dp;clear Ue hS2 hm2 Mq v0 Wz;obtain⟨pz0,pz1,pz2,pz3,pz4,pz5,pz6⟩:=Dp.c7
   all_goals
    have v0:=KX.cell 0;simp only[List.getElem?_toArray,List.getElem?_cons_zero]at v0;have kk0:=hKq.cell 0;simp only[List.getElem?_toArray,List.getElem?_cons_zero]at kk0;have hh0:=hHq.cell 0;simp only[List.getElem?_toArray,List.getElem?_cons_zero]at hh0;have KQ:=qd (um (q:=7) (Zi gb 254 (bY (T.gs.take x.val)) (bY (T.gs.drop (x.val+1))) (x.val*25) (T.gs.getD x.val []) wq (hTq.group x.val hxn) key hash h64 ac7))
    cases hf:gJ (T.gs.getD x.val []) key hash with
    |some s=>
     rw[hf]at KQ;simp only[uj]at KQ
     have hs0:(0:Int)≤(s:Int):=by omega
     gi_wp2_with fail
     refine⟨trivial,(CallsIn.inRound lp KQ.out).mono ?_⟩;rintro e w5 ⟨rfl,hb5⟩;have yZ:=dI Dq (aT.of_below (n₀:=w1.heap.size) (S:=[W.heap.size,mb]) (hb5.mono (by have:=Dq.size;omega)));have Uf:=dI Zv (aT.of_below (n₀:=w1.heap.size) (S:=[W.heap.size,mb]) (hb5.mono (by have:=Dq.size;omega)));have vR:=Zw.trans (iW (Mod.of_below hb5 []) (by simp));have hS5:=Dp.below hb5 Dp.lt;have KY:=OC.below hb5 OC.lt;have RZ:=KX.below hb5 KX.lt;have R3:=WA.below hb5;have rD:=hTq.below hb5;obtain⟨s0,s1,s2,s3,s4,s5,s6⟩:=hS5.c7;obtain⟨sf0,sf1,sf2,sf3,sf4,sf5,sf6⟩:=hS5.f7;obtain⟨r0,r1,r2,r3,r4,r5,r6⟩:=KY.c7;obtain⟨rf0,rf1,rf2,rf3,rf4,rf5,rf6⟩:=KY.f7;have R4:=RZ.cell 0;simp only[List.getElem?_toArray,List.getElem?_cons_zero]at R4;clear v0 kk0 hh0 hS5 RZ hb5 Dp KX OC WA;obtain⟨w6,oN⟩:∃w6,w6=((((((((w5.setCell ⟨W.heap.size,3,none⟩ (.pointer (some ⟨gb,x.val*25,none⟩))).setCell ⟨W.heap.size,4,none⟩ (.int .i64 (s:Int))).setCell ⟨w.heap.size+1+1+1+1,0,none⟩ (.pointer (some ⟨tb,0,none⟩))).setCell ⟨w.heap.size+1+1+1+1,1,none⟩ (.int .u64 (key:Int))).setCell ⟨w.heap.size+1+1+1+1,2,none⟩ (.int .u64 (hash:Int))).setCell ⟨w.heap.size+1+1+1+1,3,none⟩ (.pointer (some ⟨gb,x.val*25,none⟩))).setCell ⟨w.heap.size+1+1+1+1,4,none⟩ (.int .i64 (s:Int))).setCell ⟨w.heap.size+1+1+1+1,5,none⟩ (.pointer wH)).setCell ⟨w.heap.size+1+1+1+1,6,none⟩ (.int .i64 sv):=⟨_,rfl⟩
     have M6:Mod [W.heap.size,w.heap.size+1+1+1+1] w5 w6:=oN▸((((((((((Mod.refl [W.heap.size,w.heap.size+1+1+1+1] w5).ak (.inl (by simp)) _ _).ak (.inl (by simp)) _ _).ak (.inl (by simp)) _ _).ak (.inl (by simp)) _ _).ak (.inl (by simp)) _ _).ak (.inl (by simp)) _ _).ak (.inl (by simp)) _ _).ak (.inl (by simp)) _ _).ak (.inl (by simp)) _ _)
     have B6:aj w6 (w.heap.size+1+1+1+1) 202 (dP tb key hash (some ⟨gb,x.val*25,none⟩) (s:Int) wH sv):=by
      have:=(((((((((KY).far (p:=⟨W.heap.size,3,none⟩) (by show w.heap.size+1+1+1+1≠W.heap.size;omega) (.pointer (some ⟨gb,x.val*25,none⟩))).far (p:=⟨W.heap.size,4,none⟩) (by show w.heap.size+1+1+1+1≠W.heap.size;omega) (.int .i64 (s:Int))).ak 0 (.pointer (some ⟨tb,0,none⟩))).ak 1 (.int .u64 (key:Int))).ak 2 (.int .u64 (hash:Int))).ak 3 (.pointer (some ⟨gb,x.val*25,none⟩))).ak 4 (.int .i64 (s:Int))).ak 5 (.pointer wH)).ak 6 (.int .i64 sv);rw[oN];simpa only[List.setIfInBounds_toArray,List.set_cons_zero,List.set_cons_succ,dP]using this
     have T6:=R3.mod M6 (by simp;omega);have K6:aT w.heap.size [mb] w w6:=dI (dI (aT.of_below (dY.trans (hb1.mono dY.size))) (mM yZ (by omega) (by simp;omega))) (mM (M6.wS (Nat.le_refl _)) (by have:=yZ.size;have:=dY.size;omega) (by simp;omega));have F6:KeepsFrom w1.heap.size V w6:=vR.trans (iW M6 (by simp;omega));have HE:=qd (And.intro B6 (And.intro T6 (And.intro K6 F6)));clear M6 B6 T6 K6 F6;have WB:=qd oN;clear oN
     gi_wp2
     rw[←WB.out];exact⟨HE.out.2.2.2,⟨rfl,pre,x,some ⟨gb,x.val*25,none⟩,wH,rfl,hps,.inl (by rw[hf];simp),by rw[hsq,wT,hf];exact HE.out.1,fun a b hab=>by rw[wT,hf]at hab;cases hab;rfl,KW,by rw[List.length_append];exact HE.out.2.1⟩,HE.out.2.2.1⟩
    |none=>
     rw[hf]at KQ;simp only[uj]at KQ
     gi_wp2_with fail
     refine⟨trivial,(CallsIn.inRound lp KQ.out).mono ?_⟩;rintro e w4 ⟨rfl,hb4⟩;have hK4:=dI Dq (aT.of_below (n₀:=w1.heap.size) (S:=[W.heap.size,mb]) (hb4.mono (by have:=Dq.size;omega)));have ada:=dI Zv (aT.of_below (n₀:=w1.heap.size) (S:=[W.heap.size,mb]) (hb4.mono (by have:=Dq.size;omega)));have Dk:=Zw.trans (iW (Mod.of_below hb4 []) (by simp));have KZ:=Dp.below hb4 Dp.lt;have Am:=OC.below hb4 OC.lt;have R5:=KX.below hb4 KX.lt;have IW:=WA.below hb4;have R6:=hTq.below hb4;have R4:=R5.cell 0;simp only[List.getElem?_toArray,List.getElem?_cons_zero]at R4;have OE:=qd (um (q:=7) (Zk gb _ _ _ (x.val*25) _ w4 (R6.group x.val hxn)))
     cases ho':dA (T.gs.getD x.val [])with
     |true=>
      rw[ho']at OE;have ho:dA (T.gs.getD x.val [])=true:=ho'
      gi_wp2_with fail
      refine⟨trivial,(CallsIn.inRound lp OE.out).mono ?_⟩;rintro e w5 ⟨rfl,hb5⟩;have yZ:=dI hK4 (aT.of_below (n₀:=w1.heap.size) (S:=[W.heap.size,mb]) (hb5.mono (by have:=hK4.size;omega)));have Uf:=dI ada (aT.of_below (n₀:=w1.heap.size) (S:=[W.heap.size,mb]) (hb5.mono (by have:=hK4.size;omega)));have vR:=Dk.trans (iW (Mod.of_below hb5 []) (by simp));have hS5:=KZ.below hb5 KZ.lt;have KY:=Am.below hb5 Am.lt;have RZ:=R5.below hb5 R5.lt;have R3:=IW.below hb5;have rD:=R6.below hb5;obtain⟨s0,s1,s2,s3,s4,s5,s6⟩:=hS5.c7;obtain⟨sf0,sf1,sf2,sf3,sf4,sf5,sf6⟩:=hS5.f7;obtain⟨r0,r1,r2,r3,r4,r5,r6⟩:=KY.c7;obtain⟨rf0,rf1,rf2,rf3,rf4,rf5,rf6⟩:=KY.f7;have R4:=RZ.cell 0;simp only[List.getElem?_toArray,List.getElem?_cons_zero]at R4;clear v0 kk0 hh0 R4 hS5 RZ hb5 Dp KX OC WA KZ Am R5 IW;obtain⟨w6,oN⟩:∃w6,w6=((((((w5.setCell ⟨w.heap.size+1+1+1+1,0,none⟩ (.pointer (some ⟨tb,0,none⟩))).setCell ⟨w.heap.size+1+1+1+1,1,none⟩ (.int .u64 (key:Int))).setCell ⟨w.heap.size+1+1+1+1,2,none⟩ (.int .u64 (hash:Int))).setCell ⟨w.heap.size+1+1+1+1,3,none⟩ (.pointer none)).setCell ⟨w.heap.size+1+1+1+1,4,none⟩ (.int .i64 (-1))).setCell ⟨w.heap.size+1+1+1+1,5,none⟩ (.pointer wH)).setCell ⟨w.heap.size+1+1+1+1,6,none⟩ (.int .i64 sv):=⟨_,rfl⟩
      have M6:Mod [W.heap.size,w.heap.size+1+1+1+1] w5 w6:=oN▸((((((((Mod.refl [W.heap.size,w.heap.size+1+1+1+1] w5).ak (.inl (by simp)) _ _).ak (.inl (by simp)) _ _).ak (.inl (by simp)) _ _).ak (.inl (by simp)) _ _).ak (.inl (by simp)) _ _).ak (.inl (by simp)) _ _).ak (.inl (by simp)) _ _)
      have B6:aj w6 (w.heap.size+1+1+1+1) 202 (dP tb key hash none (-1) wH sv):=by
       have:=(((((((KY).ak 0 (.pointer (some ⟨tb,0,none⟩))).ak 1 (.int .u64 (key:Int))).ak 2 (.int .u64 (hash:Int))).ak 3 (.pointer none)).ak 4 (.int .i64 (-1))).ak 5 (.pointer wH)).ak 6 (.int .i64 sv);rw[oN];simpa only[List.setIfInBounds_toArray,List.set_cons_zero,List.set_cons_succ,dP]using this
      have T6:=R3.mod M6 (by simp;omega);have K6:aT w.heap.size [mb] w w6:=dI (dI (aT.of_below (dY.trans (hb1.mono dY.size))) (mM yZ (by omega) (by simp;omega))) (mM (M6.wS (Nat.le_refl _)) (by have:=yZ.size;have:=dY.size;omega) (by simp;omega));have F6:KeepsFrom w1.heap.size V w6:=vR.trans (iW M6 (by simp;omega));have HE:=qd (And.intro B6 (And.intro T6 (And.intro K6 F6)));clear M6 B6 T6 K6 F6;have WB:=qd oN;clear oN
      gi_wp2
      rw[←WB.out];exact⟨HE.out.2.2.2,⟨rfl,pre,x,none,wH,rfl,hps,.inr ho,by rw[hsq,wT,hf];exact HE.out.1,(fun a b hab=>by rw[wT,hf]at hab;cases hab),KW,by rw[List.length_append];exact HE.out.2.1⟩,HE.out.2.2.1⟩
     |false=>
      rw[ho']at OE
      gi_wp2_with fail
      refine⟨trivial,(CallsIn.inRound lp OE.out).mono ?_⟩;rintro e w5 ⟨rfl,hb5⟩;have yZ:=dI hK4 (aT.of_below (n₀:=w1.heap.size) (S:=[W.heap.size,mb]) (hb5.mono (by have:=hK4.size;omega)));have Uf:=dI ada (aT.of_below (n₀:=w1.heap.size) (S:=[W.heap.size,mb]) (hb5.mono (by have:=hK4.size;omega)));have vR:=Dk.trans (iW (Mod.of_below hb5 []) (by simp));have hS5:=KZ.below hb5 KZ.lt;have KY:=Am.below hb5 Am.lt;have RZ:=R5.below hb5 R5.lt;have R3:=IW.below hb5;have rD:=R6.below hb5;have HPs:=qd (show∀y∈pre++[x],Passed T.gs key hash y.val from fun y hy=>(List.mem_append.1 hy).elim (hps y) (fun e=>by simp at e;subst e;exact⟨hf,ho'⟩));have HL5:=qd (show Met w5 mb mt mD jH mo (gB a0 c (pre++[x]).length) (gB l0 c (pre++[x]).length) m from by rw[List.length_append];exact R3);have WC:=qd (show∃fp,aj w5 W.heap.size 202 (dP tb key hash none (-1) fp (dz (fD T.gs (vals (pre++[x])))))∧gV gb (fD T.gs (vals (pre++[x]))) fp from⟨wH,by rw[hsq];exact hS5,KW⟩);have HE:=qd (And.intro vR (And.intro Uf yZ));clear hps hf ho' R3 hS5 vR Uf yZ
      gi_wp2
      exact⟨HE.out.1,HE.out.2.1,⟨WC.out,HL5.out,HPs.out⟩,HE.out.2.2⟩
 case done=>
  rintro D ys V hD hys ⟨⟨⟨fp,Dm,hfp⟩,RX,hps⟩,oL⟩ rC
  have hse:aK T.gs key hash=(none,fD T.gs (vals ys),ys.length):=by
   have:=Zm (gs:=T.gs) (key:=key) (hash:=hash) (pre:=vals ys) hys (fun i hi=>by
    obtain⟨y,hy,rfl⟩:=List.mem_map.1 hi
    exact hps y hy)
   rw[this];simp[vals]
  have tO:=oL.blk xQ (by omega) (by simp;omega);obtain⟨sv,Zy⟩:∃sv,dz (fD T.gs (vals ys))=sv:=⟨_,rfl⟩;rw[Zy]at Dm;unfold dP at Dm;have s0:=Dm.cell 0;have s1:=Dm.cell 1;have s2:=Dm.cell 2;have s3:=Dm.cell 3;have s4:=Dm.cell 4;have s5:=Dm.cell 5;have s6:=Dm.cell 6;have r0:=tO.cell 0;have r1:=tO.cell 1;have r2:=tO.cell 2;have r3:=tO.cell 3;have r4:=tO.cell 4;have r5:=tO.cell 5;have r6:=tO.cell 6;simp only[gl]at s0 s1 s2 s3 s4 s5 s6 r0 r1 r2 r3 r4 r5 r6;obtain⟨f0,f1,f2,f3,f4,f5,f6⟩:=tO.f7;obtain⟨w6,oN⟩:∃w6,w6=((((((V.setCell ⟨w.heap.size+1+1+1+1,0,none⟩ (.pointer (some ⟨tb,0,none⟩))).setCell ⟨w.heap.size+1+1+1+1,1,none⟩ (.int .u64 (key:Int))).setCell ⟨w.heap.size+1+1+1+1,2,none⟩ (.int .u64 (hash:Int))).setCell ⟨w.heap.size+1+1+1+1,3,none⟩ (.pointer none)).setCell ⟨w.heap.size+1+1+1+1,4,none⟩ (.int .i64 (-1))).setCell ⟨w.heap.size+1+1+1+1,5,none⟩ (.pointer fp)).setCell ⟨w.heap.size+1+1+1+1,6,none⟩ (.int .i64 sv):=⟨_,rfl⟩;have M6:Mod [w.heap.size+1+1+1+1] V w6:=oN▸((((((((Mod.refl [w.heap.size+1+1+1+1] V).ak (.inl (by simp)) _ _).ak (.inl (by simp)) _ _).ak (.inl (by simp)) _ _).ak (.inl (by simp)) _ _).ak (.inl (by simp)) _ _).ak (.inl (by simp)) _ _).ak (.inl (by simp)) _ _)
  have O6:KeepsOthers V w6:=oN▸((((((((KeepsOthers.refl V).trans (KeepsOthers.setCell _ ⟨w.heap.size+1+1+1+1,0,none⟩ (.pointer (some ⟨tb,0,none⟩)))).trans (KeepsOthers.setCell _ ⟨w.heap.size+1+1+1+1,1,none⟩ (.int .u64 (key:Int)))).trans (KeepsOthers.setCell _ ⟨w.heap.size+1+1+1+1,2,none⟩ (.int .u64 (hash:Int)))).trans (KeepsOthers.setCell _ ⟨w.heap.size+1+1+1+1,3,none⟩ (.pointer none))).trans (KeepsOthers.setCell _ ⟨w.heap.size+1+1+1+1,4,none⟩ (.int .i64 (-1)))).trans (KeepsOthers.setCell _ ⟨w.heap.size+1+1+1+1,5,none⟩ (.pointer fp))).trans (KeepsOthers.setCell _ ⟨w.heap.size+1+1+1+1,6,none⟩ (.int .i64 sv)))
  have B6:aj w6 (w.heap.size+1+1+1+1) 202 (dP tb key hash none (-1) fp sv):=by
   have:=(((((((tO).ak 0 (.pointer (some ⟨tb,0,none⟩))).ak 1 (.int .u64 (key:Int))).ak 2 (.int .u64 (hash:Int))).ak 3 (.pointer none)).ak 4 (.int .i64 (-1))).ak 5 (.pointer fp)).ak 6 (.int .i64 sv);rw[oN];simpa only[List.setIfInBounds_toArray,List.set_cons_zero,List.set_cons_succ,dP]using this
  have Ug:=O6.same D _ rC rfl;have xU:=Ak B6 (grownBy_putObj' w6 D (.deferred none)) (fun r e=>by cases e;exact⟨_,Ug,rfl⟩);have hMP:=EJ (RX.mod M6 (by simp;omega)) (grownBy_putObj' w6 D (.deferred none)) (fun r e=>by cases e;exact⟨_,Ug,rfl⟩);have RU:Mod [mb] w (w6.putObj D (.deferred none)):=(dI (dI (dI (aT.of_below (dY.trans (hb1.mono dY.size))) (mM oL (by omega) (by simp;omega))) (mM (M6.wS (Nat.le_refl _)) (by have:=oL.size;omega) (by simp;omega))) (xC (w:=w) (Nat.le_refl _) w6 D _ _ (by omega) Ug rfl rfl)).mod;have HE:=qd (And.intro hMP RU);have WB:=qd oN;have HSe:=qd hse;have Hsv:=qd Zy;clear oN M6 O6 B6 hMP RU hse Zy;go_wp2;rw[←WB.out];refine xD ⟨by simp,.inl ⟨_,_,rfl,run_takeDeferred Ug, ?_⟩⟩;have d0:=xU.cell 0;have d1:=xU.cell 1;have d2:=xU.cell 2;have d3:=xU.cell 3;have d4:=xU.cell 4;have d5:=xU.cell 5;have d6:=xU.cell 6;simp only[dP,List.getElem?_toArray,List.getElem?_cons_zero,List.getElem?_cons_succ]at d0 d1 d2 d3 d4 d5 d6;refine⟨.agg (dP tb key hash none (-1) fp sv), ?_,none,fp, ?_⟩
  ·simp[results,Tryz.f90,go_sem,d0,d1,d2,d3,d4,d5,d6,dP]
  ·rw[HSe.out];exact⟨by rw[Hsv.out];rfl,(fun i s hab=>by cases hab),hfp,HE.out.1,HE.out.2⟩
 case stop=>
  rintro D cd pre V hD ⟨j,hj,hj2⟩ ⟨⟨rfl,pre',x,ap,fp,he,hps,hend,tO,hap,hfp,RX⟩,oL⟩ rC;subst he;have hse:=Wy hj2 hps hend;have hc0:=tO.cell 0;have hc1:=tO.cell 1;have hc2:=tO.cell 2;have hc3:=tO.cell 3;have hc4:=tO.cell 4;have hc5:=tO.cell 5;have hc6:=tO.cell 6;have xU:aj (V.putObj D (.deferred none)) (w.heap.size+1+1+1+1) 202 _:=Ak tO (grownBy_putObj' V D (.deferred none)) (fun r e=>by cases e;exact⟨_,rC,rfl⟩);have hMP:=EJ RX (grownBy_putObj' V D (.deferred none)) (fun r e=>by cases e;exact⟨_,rC,rfl⟩)
  gi_wp2
  refine xD ⟨by simp,.inl ⟨_,_,rfl,run_takeDeferred rC, ?_⟩⟩;have d0:=xU.cell 0;have d1:=xU.cell 1;have d2:=xU.cell 2;have d3:=xU.cell 3;have d4:=xU.cell 4;have d5:=xU.cell 5;have d6:=xU.cell 6;simp only[dP,List.getElem?_toArray,List.getElem?_cons_zero,List.getElem?_cons_succ]at d0 d1 d2 d3 d4 d5 d6;refine⟨.agg (dP tb key hash ap (dz (wT T.gs key hash x.val)) fp (dz (fD T.gs (vals (pre'++[x]))))), ?_,ap,fp, ?_⟩
  ·simp[results,Tryz.f90,go_sem,d0,d1,d2,d3,d4,d5,d6,dP]
  ·rw[hse];exact⟨rfl,hap,hfp,hMP,(dI oL (xC (w:=w) (Nat.le_refl _) V D _ _ (by have:=dY.size;omega) rC rfl rfl)).mod⟩
end Go.Proofs.YtjfgpnapccdnlaaGreatDoor
