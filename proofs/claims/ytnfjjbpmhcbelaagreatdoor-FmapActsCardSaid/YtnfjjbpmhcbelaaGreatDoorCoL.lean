/- Going over a mask's lanes, and over the places of a walk, by their contracts. -/
import Derived.RangeFuncNested
import Derived.Test.YtnfjjbpmhcbelaaGreatDoorGaugeA
import Derived.RangeFuncBound
import Derived.RangeFuncCalls
import Derived.RangeFuncLeaves
import Derived.RangeFuncBox
import Derived.Shelf.Abstract
import Derived.Shelf.RegionOpen
import Derived.WalkKit
import Derived.OwnWalkIn
import Derived.TacticsInMore
import Derived.LoopNIn
import Derived.LoopIn
import Derived.Test.YtnfjjbpmhcbelaaGreatDoorCoG
import Derived.Test.YtnfjjbpmhcbelaaGreatDoorCoJ
import Derived.Test.YtnfjjbpmhcbelaaGreatDoorAppAny
namespace Go.Proofs.YtnfjjbpmhcbelaaGreatDoor
set_option maxRecDepth 100000
set_option maxHeartbeats 2000000
open Go.RowKit Go.Shelf dI
section
variable {n n₀ : Nat} {S : List Nat} {A w w' : World} {P : Program}
attribute [local go_sem] Oper.semAt_some
structure aY (n₀:Nat)(S:List Nat)(A B:World):Prop where
 os:B.os=A.os
 tape:B.tape=A.tape
 output:B.output=A.output
 size:A.heap.size≤B.heap.size
 block:∀k,k<n₀→k∉S→B.heap[k]?=A.heap[k]?
theorem aY.refl (n₀:Nat)(S:List Nat)(w:World):aY n₀ S w w:=⟨rfl,rfl,rfl,Nat.le_refl _,fun _ _ _=>rfl⟩
theorem aY.drew (n₀:Nat)(S:List Nat)(w:World):aY n₀ S w w.drew:=⟨rfl,rfl,rfl,Nat.le_refl _,fun _ _ _=>rfl⟩
theorem dN {B C:World}(h:aY n₀ S A B)(k:aY n₀ S B C):aY n₀ S A C:=
 ⟨k.os.trans h.os,k.tape.trans h.tape,k.output.trans h.output,Nat.le_trans h.size k.size,fun i hi hs=>(k.block i hi hs).trans (h.block i hi hs)⟩
theorem Mod.wW {B:World}(h:Mod S A B)(hn:n₀≤A.heap.size):aY n₀ S A B:=
 ⟨h.os,h.tape,h.output,h.size,fun k hk hs=>h.block k (Nat.lt_of_lt_of_le hk hn) hs⟩
theorem aY.of_below {B:World}(h:Below n₀ A B):aY n₀ S A B:=⟨h.os,h.tape,h.output,h.size,fun k hk _=>h.block k hk⟩
theorem aY.ak (h:aY n₀ S w w'){b:Nat}(hb:b∈S∨n₀≤b)(o:Nat)(u:Value):aY n₀ S w (w'.setCell ⟨b,o,none⟩ u):=
 ⟨h.os,h.tape,h.output,by simpa using h.size,fun k hk hn=>by
  have hne:k≠b:=by rintro rfl;rcases hb with hb|hb;exact hn hb;omega
  exact(Below.heap_setCell w' ⟨b,o,none⟩ u k hne).trans (h.block k hk hn)⟩
theorem xG (hn:n₀≤w.heap.size)(W:World)(l:Nat)(o o':Obj)(hl:w.heap.size≤l)(_:W.heap[l]?=some o)(_:o.isCells=false)(_:o.isWalk=false):aY n₀ S W (W.putObj l o'):=
 ⟨rfl,rfl,rfl,by simp,fun k hk _=>World.putObj_heap_other (by omega)⟩
theorem aY.grown {a:World}{row:Option Nat}(h:aY n₀ S a w)(hg:w.grownBy w' row)(hn:n₀≤w.heap.size)(hr:∀k,row=some k→n₀≤k):aY n₀ S a w':=
 dN h ⟨hg.os,hg.tape,hg.output,hg.size,fun k hk _=>hg.block k (by omega) (fun e=>by have:=hr k e.symm;omega)⟩
theorem qK {β:Type}{B:Nat}{w₀:World}(hn:n₀≤w₀.heap.size)(hB:n₀≤B):OwnFrom B (fun(_:β) W=>aY n₀ S w₀ W):=
 fun _ _ _ _ hs hg hr=>hs.grown hg (Nat.le_trans hn hs.size) (fun k e=>Nat.le_trans hB (hr k e).1)
theorem aY.cell {B:World}(h:aY n₀ S A B){p:Addr}(hp:p.block<n₀)(hs:p.block∉S):B.cell? p=A.cell? p:=World.cell?_of_block (w:=A) (h.block p.block hp hs)
theorem aY.mod {B:World}(h:aY A.heap.size S A B):Mod S A B:=⟨h.os,h.tape,h.output,h.size,fun k hk hs=>h.block k hk hs⟩
theorem aY.tz {B:World}(h:aY n₀ S A B)(hg:17 <n₀)(hs:17 ∉S)(hT:fP A):fP B:=fun i hi=>(h.cell (p:=⟨17,pO i,none⟩) hg hs).trans (hT i hi)
theorem aY.blk {B:World}{g:Nat}{t:TypeId}{cs:Array Value}(h:aY n₀ S A B)(hb:aj A g t cs)(hg:g<n₀)(hs:g∉S):aj B g t cs:=(h.block g hg hs).trans hb
theorem uG {f:FuncId}{args:Array Value}{q:Nat}{R:Ending→World→Prop}(h:Calls P f args w R):CallsIn Fence.wide q P f args w R:=callsIn_wide.2 h
abbrev zZ (x:Nat):Array Value:= #[nI x]
theorem UW (q:Nat)(hq:1≤q)(lp Bs:Nat)(l:List Nat)(hl:l.length=8)(hb:Bytes l)(Kp:World→World→Prop)(hT:∀A B,Kp A B→fP A→fP B)(J Jx:List Nat→World→Prop)(hY:∀pre x W,x<8→J pre W→pre.length<8→YieldAt Fence.wide (q-1) Tryz.prog lp (zZ x) W fun e W'=>
   (e= .returned (.bool true)∧J (pre++[x]) W'∧Kp W W')∨(e= .returned (.bool false)∧Jx (pre++[x]) W')) (W:World) (hc:W.cell? ⟨Bs,0,none⟩=some (.int .u64 ((w8 l:Nat):Int))) (l7:fP W) (h0:J [] W):
  CallsIn Fence.wide q Tryz.prog 251 #[.func (.yield lp) #[] #[],pQ Bs] W fun e W'=>(∃v,e= .returned v)∧
   ((∃ys,ys=cZ 0 (l.map eu)∧J ys W')∨(∃pre,(∃r,pre++r=cZ 0 (l.map eu))∧Jx pre W')):=by
 have HH:=qd (fun V=>uG (q:=q-1) (vo l hl hb V));have HF:=qd (fun(m:List Nat) (hm:Marks m) (hml:m.length=8) (i:Nat) (hi:firstM m=some i) (V:World) (hV:fP V)=>uG (q:=q-1) (yN m hml hm.bytes i (by rw[vg hm];exact hi) V hV));obtain⟨L,hL⟩:∃L,L=cZ 0 (l.map eu):=⟨_,rfl⟩;have hm0:=rD l
 have hl0:(l.map eu).length=8:=by simpa using hl
 have hL8:L.length≤8:=by rw[hL];have:=CG (l.map eu) 0;omega
 rw[←hL];have HL:=qd hL;clear hL hl hb;refine callsIn_of_wp Tryz.func251 rfl trivial ?_ rfl;simp only[Tryz.ntmps251,List.size_toArray,List.length_cons,List.length_nil,Nat.reduceAdd,Nat.reduceSub,Array.replicate_succ,Array.replicate_zero,List.push_toArray,List.append_toArray,List.nil_append,List.cons_append]
 gi_wp2_with (refine⟨trivial, ?_⟩;gi_at_call 249;refine(HH.out _).mono ?_;rintro e w' ⟨rfl,rfl⟩)
 gi_loopw [3] (fun v wr=>∃(m:List Nat) (pre:List Nat),Marks m∧m.length=8∧v= .int .u64 ((w8 m:Nat):Int)∧Hid (pre++cZ 0 m=L)∧J pre wr∧fP wr) (fun v _=>(intOf v).toNat)
 case atStart=>exact⟨_,[],hm0,hl0,rfl,qd HL.out.symm,h0,l7⟩
 case round=>
  obtain⟨m,pre,hm,hml,rfl,HP,hJ,hTr⟩:=hrel;have UY:=qd hTr;clear hTr;by_cases hz:w8 m=0
  ·have hz':(((w8 m:Nat):Int) !=0)=false:=by rw[hz];rfl
   have hn:=(pI hm).1 hz;have hp:=HP.out;rw[He 0 hn,List.append_nil]at hp;have Sn:=qd hp;clear hz hn hp
   gi_wp2
   go_end0;exact⟨⟨_,rfl⟩,.inl ⟨_,Sn.out,hJ⟩⟩
  ·have hz':(((w8 m:Nat):Int) !=0)=true:=by rw[bne_iff_ne];omega
   obtain⟨i,hi⟩:=PS hm hz;have hp:=HP.out;rw[G9 0 hi,Nat.zero_add]at hp
   have hlen:pre.length<8:=by have:=congrArg List.length hp;simp at this;omega
   have hdv:=XV hm hml hz;have hdl:=QD hm hz;have Sn:=qd hp;have HD:=qd hdv;have Kg:=qd (HF.out m hm hml i hi wr UY.out);have Hi:=qd hi;obtain⟨fn,tmps,assign,body,hy,sM⟩:=hY pre i wr (by have:=FW hi;omega) hJ hlen;simp only[zZ]at hy sM;clear hp hi hdv hz
   gi_wp2_with (refine⟨trivial, ?_⟩;gi_at_call 214;refine Kg.out.mono ?_;rintro e w' ⟨rfl,rfl⟩)
   refine sM.mono ?_;rintro e W3 (⟨rfl,hJ3,hk3⟩|⟨rfl,hJx3⟩)
   ·gi_wp2
    rw[HD.out];go_roundw
    case rel=>exact⟨mE m,pre++[i],GV hm,by rw[CB];exact hml,rfl,qd (by rw[List.append_assoc];exact Sn.out),hJ3,hT _ _ hk3 UY.out⟩
    case measure=>simp[intOf];omega
   ·gi_wp2
    refine bodyPost_ret (results_none rfl _ _ _) rfl ?_;exact⟨⟨_,rfl⟩,.inr ⟨_,⟨cZ 0 (mE m),by rw[List.append_assoc];exact Sn.out⟩,hJx3⟩⟩
theorem Hz (l:List Nat)(w:World):Calls Tryz.prog 216 #[.int .u64 ((w8 l:Nat):Int)] w fun e w'=>e= .returned (.func (.func 251) #[] #[pQ w.heap.size])∧w.alloc (.cells #[.int .u64 ((w8 l:Nat):Int)] 41)=w':=by
 go_in;go_wp2;go_ret;exact⟨rfl,rfl⟩
theorem aa8 (hn:Pw n){a:Nat}(ha:a<128):bits .and .i64 (a:Int) ((n:Int)-1)=((a % n:Nat):Int):=by
 have H:∀n∈([1,2,4,8,16,32,64]:List Nat),∀a:Fin 128,bits .and .i64 (a.val:Int) ((n:Int)-1)=((a.val % n:Nat):Int):=by decide+kernel
 have hm:n∈([1,2,4,8,16,32,64]:List Nat):=by unfold Pw at hn;simp;omega
 exact H n hm ⟨a,ha⟩
def CU (h n j:Nat):Nat:=(h+(Ho j-j)) % n
theorem Nh (j:Nat):Ho (j+1)=Ho j+(j+1):=by
 unfold Ho
 have:(j+1)*(j+1+1)=j*(j+1)+2*(j+1):=by rw[Nat.mul_add (j+1) (j+1) 1,Nat.add_mul,Nat.mul_comm j (j+1)];omega
 rw[this];omega
theorem ab0 (j:Nat):j≤Ho j:=by
 cases j with
 |zero=>exact Nat.zero_le _
 |succ j=>rw[Nh];omega
theorem Yh (h n j:Nat):(CU h n j+j) % n=bZ h n j:=by
 unfold CU bZ;rw[Nat.mod_add_mod];have:=ab0 j;congr 1;omega
theorem Yi (h n j:Nat):CU h n (j+1)=bZ h n j:=by
 unfold CU bZ;rw[Nh,Nat.add_sub_cancel]
theorem Yj (h n:Nat):CU h n 0=h % n:=by simp[CU,Ho]
theorem CV (h n j:Nat)(hj:j≤n):(walk h n).take j=(List.range j).map (bZ h n):=by
 unfold walk;rw[←List.map_take,List.take_range,Nat.min_eq_left hj]
theorem Yk (q:Nat)(hq:1≤q)(lp Bg Bh:Nat)(h n:Nat)(h64:h<18446744073709551616)(hn:Pw n)(Kp:World→World→Prop)(hKr:∀W,Kp W W)(hKt:∀{A B C:World},Kp A B→Kp B C→Kp A C)(hKc:∀(W W':World) (v:Value),Kp W W'→W.cell? ⟨Bg,0,none⟩=some v→W'.cell? ⟨Bg,0,none⟩=some v)(J Jx:List Nat→World→Prop)(hY:∀pre x W,x<n→J pre W→pre.length<64→YieldAt Fence.wide (q-1) Tryz.prog lp (zZ x) W fun e W'=>
   (e= .returned (.bool true)∧J (pre++[x]) W'∧Kp W W')∨(e= .returned (.bool false)∧Jx (pre++[x]) W')) (W:World) (hcg:W.cell? ⟨Bg,0,none⟩=some (nI n)) (hch:W.cell? ⟨Bh,0,none⟩=some (nU h)) (h0:J [] W):
  CallsIn Fence.wide q Tryz.prog 212 #[.func (.yield lp) #[] #[],pQ Bg,pQ Bh] W fun e W'=>(∃v,e= .returned v)∧
   ((∃ys,ys=walk h n∧J ys W')∨(∃pre,(∃j,j≤n∧pre=(walk h n).take j)∧Jx pre W')):=by
 have HR:=qd (fun V=>uG (q:=q-1) (PV n hn V));have HH:=qd (fun V=>uG (q:=q-1) (Sg h n h64 hn V));have HA:=qd (fun(a:Nat) (ha:a<128)=>aa8 hn ha)
 have hn1:(1:Int)≤(n:Int):=by have:=hn.pos;omega
 have hn2:(n:Int)≤64:=by have:=hn.le;omega
 have hpos:=hn.pos;have HN:=qd hn;clear hn;refine callsIn_of_wp Tryz.func212 rfl trivial ?_ rfl;simp only[Tryz.ntmps212,List.size_toArray,List.length_cons,List.length_nil,Nat.reduceAdd,Nat.reduceSub,Array.replicate_succ,Array.replicate_zero,List.push_toArray,List.append_toArray,List.nil_append,List.cons_append]
 gi_wp2_with (first
  |(refine⟨trivial, ?_⟩;gi_at_call 207;refine(HR.out _).mono ?_;rintro e w' ⟨rfl,rfl⟩)
  |(refine⟨trivial, ?_⟩;gi_at_call 213;refine(HH.out _).mono ?_;rintro e w' ⟨rfl,rfl⟩))
 gi_loopw [4,5,13] (fun a _ i wr=>∃j:Nat,j≤n∧i=nI j∧a= .int .i64 ((CU h n j:Nat):Int)∧J ((walk h n).take j) wr∧Kp W wr) (fun _ _ i _=>n-(intOf i).toNat)
 case atStart=>exact⟨0,Nat.zero_le _,rfl,congrArg (Value.int .i64) (by rw[Yj];omega),h0,hKr _⟩
 case round=>
  obtain⟨j,hj,rfl,rfl,hJ,hK⟩:=hrel;by_cases hlt:j<n
  ·have hlt':(j:Int)<(n:Int):=by omega
   have afh:=hKc _ _ _ hK hcg;have ha0:CU h n j<n:=Nat.mod_lt _ hpos;have hv:=HA.out (CU h n j+j) (by have:=HN.out.le;omega);rw[Yh]at hv
   have hv2:bits .and .i64 (((CU h n j:Nat):Int)+(j:Int)) ((n:Int)-1)=((bZ h n j:Nat):Int):=by rw[←hv];congr 1
   have hnx:=Yi h n j
   have htk:(walk h n).take (j+1)=(walk h n).take j++[bZ h n j]:=by
    rw[CV _ _ _ hlt,CV _ _ _ hj,List.range_succ,List.map_append];rfl
   have hlen:((walk h n).take j).length<64:=by rw[CV _ _ _ hj];simp;have:=HN.out.le;omega
   obtain⟨fn,tmps,assign,body,hy,sM⟩:=hY _ (bZ h n j) wr (Nat.mod_lt _ hpos) hJ hlen;simp only[zZ]at hy sM;generalize bZ h n j=x at*;generalize CU h n j=b at*;have HT:=qd htk;have HX:=qd hnx
   have hb0:(0:Int)≤(b:Int):=by omega
   have hb1:(b:Int)<64:=by omega
   clear hv htk hnx
   gi_wp2
   refine sM.mono ?_;rintro e W3 (⟨rfl,hJ3,hk3⟩|⟨rfl,hJx3⟩)
   ·gi_wp2
    go_roundw
    case rel=>exact⟨j+1,by omega,by go_num,by rw[HX.out],by rw[HT.out];exact hJ3,hKt hK hk3⟩
    case measure=>simp[intOf];omega
   ·gi_wp2
    refine bodyPost_ret (results_none rfl _ _ _) rfl ?_;exact⟨⟨_,rfl⟩,.inr ⟨_,⟨j+1,by omega,HT.out.symm⟩,hJx3⟩⟩
  ·obtain rfl:j=n:=by omega
   have hlt':¬(j:Int)<(j:Int):=by omega
   have hw:(walk h j).take j=walk h j:=List.take_of_length_le (by simp[walk]);rw[hw]at hJ;clear hw
   gi_wp2
   go_end0
   first|exact⟨⟨_,rfl⟩,.inl ⟨_,rfl,hJ⟩⟩|exact⟨⟨_,rfl⟩,.inl hJ⟩
theorem Sq (h n:Nat)(w:World):Calls Tryz.prog 151 #[nU h,nI n] w fun e w'=>e= .returned (.func (.func 212) #[] #[.pointer (some ⟨w.heap.size+1,0,none⟩),pQ w.heap.size])∧(w.alloc (.cells #[nU h] 41)).alloc (.cells #[nI n] 3)=w':=by
 go_in;go_wp2;go_ret;exact⟨rfl,rfl⟩
abbrev Ni {n:Nat}(x:Fin n):Array Value:=zZ x.val
def Bl {n:Nat}(J:List (Fin n)→World→Prop)(pre:List Nat)(W:World):Prop:=∃p:List (Fin n),p.map Fin.val=pre∧J p W
theorem ES {N:Nat}{F:Fence}{m l:Nat}{J Jx:List (Fin n)→World→Prop}{Kp:World→World→Prop}(hY:∀pre x W1,J pre W1→pre.length<N→YieldAt F m P l (Ni x) W1 fun e W'=>(e= .returned (.bool true)∧J (pre++[x]) W'∧Kp W1 W')∨(e= .returned (.bool false)∧Jx (pre++[x]) W')):
  ∀pre x W1,x<n→Bl J pre W1→pre.length<N→YieldAt F m P l (zZ x) W1 fun e W'=>(e= .returned (.bool true)∧Bl J (pre++[x]) W'∧Kp W1 W')∨(e= .returned (.bool false)∧Bl Jx (pre++[x]) W'):=by
 rintro pre x W1 hx ⟨p,rfl,hJ⟩ hlen;obtain⟨fn,tmps,assign,body,hy,sM⟩:=hY p ⟨x,hx⟩ W1 hJ (by simpa using hlen);refine⟨fn,tmps,assign,body,hy,sM.mono fun e W' he=> ?_⟩;rcases he with⟨h1,h2,h3⟩|⟨h1,h2⟩
 ·exact .inl ⟨h1,⟨_,by simp,h2⟩,h3⟩
 ·exact .inr ⟨h1,⟨_,by simp,h2⟩⟩
theorem ET (q:Nat)(hq:1≤q)(Bs n₀:Nat)(S:List Nat)(l:List Nat)(hl:l.length=8)(hb:Bytes l)(w:World)(hg:17 <n₀)(hs:17 ∉S)(hn₀:n₀≤w.heap.size)(UZ:Bs<w.heap.size)(hc:w.cell? ⟨Bs,0,none⟩=some (.int .u64 ((w8 l:Nat):Int)))(hT:fP w):
  SeqStopsK (α:=Fin 8) Fence.wide q Tryz.prog 251 #[pQ Bs] Ni (aY n₀ S) (fun ys=>ys.map Fin.val=cZ 0 (l.map eu)) (fun pre=>∃r,pre.map Fin.val++r=cZ 0 (l.map eu)) 8 w:=fun lp J Jx W hW _ _ hY h0=>
 (UW q hq lp Bs l hl hb (aY n₀ S) (fun _ _ h=>h.tz hg hs) (Bl J) (Bl Jx) (ES hY) W ((hW.cell (p:=⟨Bs,0,none⟩) UZ).trans hc) (fun i hi=>(hW.cell (p:=⟨17,pO i,none⟩) (Nat.lt_of_lt_of_le hg hn₀)).trans (hT i hi)) ⟨[],rfl,h0⟩).mono fun e W' he=>by
  obtain⟨hv,⟨ys,hys,p,hp,hJ⟩|⟨pre,⟨r,hr⟩,p,hp,hJ⟩⟩:=he
  ·exact⟨hv,.inl ⟨p,hp.trans hys,hJ⟩⟩
  ·exact⟨hv,.inr ⟨p,⟨r,by rw[hp];exact hr⟩,hJ⟩⟩
theorem Sr (q:Nat)(hq:1≤q)(Bg Bh n₀:Nat)(S:List Nat)(h n:Nat)(h64:h<18446744073709551616)(hn:Pw n)(w:World)(hBg:Bg<n₀)(hgs:Bg∉S)(EU:Bh<w.heap.size)(hn₀:n₀≤w.heap.size)(hcg:w.cell? ⟨Bg,0,none⟩=some (nI n))(hch:w.cell? ⟨Bh,0,none⟩=some (nU h)):
  SeqStopsK (α:=Fin n) Fence.wide q Tryz.prog 212 #[pQ Bg,pQ Bh] Ni (aY n₀ S) (fun ys=>ys.map Fin.val=walk h n) (fun pre=>∃j,j≤n∧pre.map Fin.val=(walk h n).take j) 64 w:=fun lp J Jx W hW _ _ hY h0=>
 (Yk q hq lp Bg Bh h n h64 hn (aY n₀ S) (aY.refl _ _) dN (fun _ _ _ hk hc=>(hk.cell (p:=⟨Bg,0,none⟩) hBg hgs).trans hc) (Bl J) (Bl Jx) (ES hY) W ((hW.cell (p:=⟨Bg,0,none⟩) (Nat.lt_of_lt_of_le hBg hn₀)).trans hcg) ((hW.cell (p:=⟨Bh,0,none⟩) EU).trans hch) ⟨[],rfl,h0⟩).mono fun e W' he=>by
  obtain⟨hv,⟨ys,hys,p,hp,hJ⟩|⟨pre,⟨j,hj,hr⟩,p,hp,hJ⟩⟩:=he
  ·exact⟨hv,.inl ⟨p,hp.trans hys,hJ⟩⟩
  ·exact⟨hv,.inr ⟨p,⟨j,hj,hp.trans hr⟩,hJ⟩⟩
end
section
variable {l : List Nat} {es : List av} {h2 key : Nat}
attribute [local go_sem] Oper.semAt_some
def Eo (l:List Nat)(es:List av)(key h2:Nat):Option Nat:=(cZ 0 (l.map (kU h2))).find? fun i=>(es.getD i ⟨0,0,0⟩).key==key
theorem Sv {ys:List (Fin 8)}(hys:ys.map Fin.val=cZ 0 ((l.map (kU h2)).map eu))(hp:∀x∈ys,((es.getD x.val ⟨0,0,0⟩).key==key)=false):Eo l es key h2=none:=by
 unfold Eo;rw[vg (FV h2 l)]at hys;rw[←hys,List.find?_eq_none];intro x hx;obtain⟨y,hy,rfl⟩:=List.mem_map.1 hx;rw[hp y hy];simp
theorem Sw {pre:List (Fin 8)}{x:Fin 8}{r:List Nat}(hys:(pre++[x]).map Fin.val++r=cZ 0 ((l.map (kU h2)).map eu))(hp:∀x∈pre,((es.getD x.val ⟨0,0,0⟩).key==key)=false)(hx:((es.getD x.val ⟨0,0,0⟩).key==key)=true):Eo l es key h2=some x.val:=by
 unfold Eo;rw[vg (FV h2 l)]at hys
 rw[←hys,List.map_append,List.append_assoc,List.find?_append,List.find?_eq_none.2 (fun y hy=>by
  obtain⟨z,hz,rfl⟩:=List.mem_map.1 hy
  rw[hp z hz];simp)]
 show Option.or none (List.find? _ (x.val::r))=_;rw[List.find?_cons_of_pos (p:=fun i=>(es.getD i ⟨0,0,0⟩).key==key) hx];rfl
theorem xH {F:Fence}{n:Nat}{P:Program}{fn:Func}{R:Ending→World→Prop}{a:Act}{w:World}(h:LeavesInM F n P fn a.tmps R a.defers .returning w):aap (bodyPostM F n P fn R) .ret a w:=h
theorem U0 (gb:Nat)(t:TypeId)(pre post:List Value)(go:Nat)(l:List Nat)(es:List av)(key hash:Nat)(h64:hash<18446744073709551616)(w:World)(h:cO w gb t pre post go l es)(hT:fP w):
  Calls Tryz.prog 154 #[bC ⟨gb,go,none⟩,nU key,nU hash] w fun e w'=>e= .returned (.int .i64 (uF (Eo l es key (hash % 128))))∧Below w.heap.size w w':=by
 obtain⟨W,hW,hB,hV,hK,hR⟩:=qX3 w 201 #[.pointer (some ⟨gb,go,none⟩)] 41 #[nU key] 3 #[.int .i64 0];have hG:=h.below hB;have H2:=qd (MW hash h64);have mY:=qd (R6 l h.l8 h.bytes (hash % 128) (by omega));have HW:=qd hW;have HB:=qd hB;have hg:=World.block_lt_of_cell? w _ (hT 0 (by omega));have Nj:=h.l8;unfold bC;clear hW h hB;refine(callsIn_wide (n:=10)).1 ?_
 have h1:1≤10:=by omega
 refine kV Tryz.func154 rfl trivial rfl ?_;simp only[Tryz.ntmps154,List.size_toArray,List.length_cons,List.length_nil,Nat.reduceAdd,Nat.reduceSub,Array.replicate_succ,Array.replicate_zero,List.push_toArray,List.append_toArray,List.nil_append,List.cons_append];refine wpIn_wide.2 ?_;go_upto_region 1 with fail;rw[←HW.out];have v0:=hV.cell 0;simp only[List.getElem?_toArray,List.getElem?_cons_zero]at v0;have hw:=hG.word;refine rT (fun(w':World)=>w'.cell? ⟨w.heap.size,0,none⟩=some (.pointer (some ⟨gb,go,none⟩))∧w'.cell? ⟨gb,go,none⟩=some (.int .u64 ((w8 l:Nat):Int))) [] ?_;have hHeld:=(⟨v0,hw⟩:_∧_);refine vW 0 rfl ?_;refine vT 1 rfl ?_;refine vW 2 rfl ?_;refine vW 3 rfl ?_;refine vT 4 rfl ?_;refine vW 5 rfl ?_;refine nT 6 rfl fun K hK=> ?_;go_simp;refine(H2.out _).mono ?_;rintro e w1 ⟨rfl,rfl⟩;go_wp2_with fail;have hHeld:=(⟨v0,hw⟩:_∧_);refine kO hK ?_;clear hK K;refine nT 7 rfl fun K hK=> ?_;go_simp;refine(mY.out _).mono ?_;rintro e w1 ⟨rfl,rfl⟩;go_wp2_with fail;have hHeld:=(⟨v0,hw⟩:_∧_);refine kO hK ?_;clear hK K;refine nT 8 rfl fun K hK=> ?_;go_simp;refine(Hz (l.map (kU (hash % 128))) _).mono ?_;rintro e w1 ⟨rfl,hw1⟩;have hb1:Below W.heap.size W w1:=hw1▸((Below.refl W.heap.size W).drew).alloc (Nat.le_refl _) _;have hL1:aj w1 W.heap.size 41 #[.int .u64 ((w8 (l.map (kU (hash % 128))):Nat):Int)]:=hw1▸aj.new W.drew _ _;clear hw1;go_wp2_with fail;replace v0:=aI hb1 v0;replace hw:=aI hb1 hw;have hHeld:=(⟨v0,hw⟩:_∧_)
 refine kO hK ?_;clear hK K;refine aR (by kernel_rfl) ?_ _;go_wp2_with fail;refine(wpIn_wide (n:=10)).1 ?_;have hB1:Below w.heap.size w w1:=bP hb1 HB.out;have hlt3:w.heap.size+1+1<W.heap.size:=hR.lt;have hT1:fP w1:=fun i hi=>(hB1.cell (p:=⟨17,pO i,none⟩) hg).trans (hT i hi);have hG1:=hG.below hb1;have hK1:=(hK.below hb1 hK.lt).cell 0;have xP:=hR.below hb1 hR.lt;have hbl:=hB1.size;simp only[List.getElem?_toArray,List.getElem?_cons_zero]at hK1
 refine wpIn_rangeFunc_ownH rfl h1 (gf:=251) (lb:= #[pQ W.heap.size]) rfl trivial (enters_of Tryz.func251 (by kernel_rfl) rfl)
  (ET (10-1) (by omega) W.heap.size w1.heap.size [] (l.map (kU (hash % 128))) (by simpa using Nj) (FV _ l).bytes w1 (by omega) (by simp) (Nat.le_refl _) hL1.lt (hL1.cell 0) hT1) dN (xG (Nat.le_refl _)) (Below.refl _ _) (fun _=>rfl)
  (fun pre V=>(∀x∈pre,((es.getD x.val ⟨0,0,0⟩).key==key)=false)∧Below w1.heap.size w1 V)
  (fun c pre V=>(c= .ret∧∃pre' x,pre=pre'++[x]∧(∀y∈pre',((es.getD y.val ⟨0,0,0⟩).key==key)=false)∧((es.getD x.val ⟨0,0,0⟩).key==key)=true∧Boxed V (w.heap.size+1+1) 3 (nI x.val))∧Below w.heap.size w V)
  (OwnFrom.and (fun _ _ _ _ hs _ _=>hs) (ownFrom_below (Nat.le_refl _) (Nat.le_refl _)))
  (fun c=>OwnFrom.and (fun _ X Y row hs hg hr=>by
   obtain⟨h0,pre',x,h2,h3,h4,h5⟩:=hs
   exact⟨h0,pre',x,h2,h3,h4,boxed_own (w.heap.size+1+1) 3 (fun(_:Unit)=>Value.int .i64 (x.val:Int)) () X Y row h5 hg (fun r e=>(hr r e).2)⟩) (ownFrom_below (Nat.le_refl _) (by omega)))
  ⟨by simp,Below.refl _ _⟩
  (fun x a' _=>a'={tmps:= #[.agg #[.pointer (some ⟨gb,go,none⟩)],nU key,nU hash,pQ w.heap.size,.pointer (some ⟨w.heap.size+1,0,none⟩),undef,.pointer (some ⟨w.heap.size+1+1,0,none⟩),nI x.val,pQ w.heap.size,.pointer (some ⟨gb,go,none⟩),.pointer (some ⟨gb,go,none⟩),.pointer (some ⟨gb,go,none⟩),.int .u64 ((w8 l:Nat):Int),nU hash,.int .u8 ((hash:Int) % 128),.int .u64 ((w8 (List.map (kU (hash % 128)) l):Nat):Int),.func (.func 251) #[] #[pQ W.heap.size],nI x.val,undef,undef,undef,undef,undef,undef,undef,undef,undef,undef,undef],defers:=[]})
  (fun _ _ _ _ _ _ hs _ _=>hs) ?assign ?body ?done ?stop
 case assign=>
  rintro lp pre x V K hi hK
  gi_wp2
  exact hK _ _ (KeepsFrom.refl _ _) (aY.refl _ _ _) hi rfl
 case body=>
  rintro lp pre x a' V hl ⟨r,hr⟩ ⟨hp,hV1⟩ rfl hlt;have Kh:x.val<8:=x.isLt;have hv:=aI hV1 v0;have hk:=aI hV1 hK1;have s0:=(hG1.below hV1).at_ x.val 0 Kh (by omega);rw[Nat.add_zero]at s0;simp only[aV,List.getElem?_cons_zero]at s0
  have hxi:(x.val:Int)<8:=by omega
  have hx0:(0:Int)≤(x.val:Int):=by omega
  have vF:=qd hp
  have HO:(((es.getD x.val ⟨0,0,0⟩).key:Int)==(key:Int))=((es.getD x.val ⟨0,0,0⟩).key==key):=by rw[Bool.eq_iff_iff,beq_iff_eq,beq_iff_eq];omega
  generalize hkx:(es.getD x.val ⟨0,0,0⟩).key=kx at*;have HKx:=qd hkx;clear hp hkx
  gi_wp2_with fail
  refine AY (fun(w':World)=>w'.cell? ⟨w.heap.size,0,none⟩=some (.pointer (some ⟨gb,go,none⟩))∧w'.cell? ⟨w.heap.size+1,0,none⟩=some (nU key)∧w'.cell? ⟨gb,go+1+x.val*3,none⟩=some (nU kx)) [] (by kernel_rfl) (by kernel_rfl) (by rintro⟨_,_,h⟩;exact h) ?_
  try (change bE _ _ _ _ _ _ _ _ _ (World.drew _))
  have hHeld:=(⟨hv,hk,s0⟩:_∧_∧_);refine vW 0 rfl ?_;refine vT 1 rfl ?_;refine vW 2 rfl ?_;refine vW 3 rfl ?_;refine vW 4 rfl ?_;refine vW 5 rfl ?_;refine vW 6 rfl ?_;refine vT 7 rfl ?_;refine vT 8 rfl ?_;refine vW 9 rfl ?_;refine aR (by kernel_rfl) ?_ _
  cases hb:(kx==key)with
  |false=>
   rw[hb]at HO
   gi_wp2
   exact⟨(KeepsOthers.drew _).from _,aY.drew _ _ _,fun y hy=>(List.mem_append.1 hy).elim (vF.out y) (fun e=>by simp at e;subst e;rw[HKx.out];exact hb),hV1.drew⟩
  |true=>
   rw[hb]at HO;have cR:=(xP.below hV1 xP.lt).cell 0;have fR:=(xP.below hV1 xP.lt).frozen 0;simp only[List.getElem?_toArray,List.getElem?_cons_zero]at cR
   gi_wp2
   have hBx:Boxed V (w.heap.size+1+1) 3 (.int .i64 0):=xP.below hV1 xP.lt;exact⟨((KeepsOthers.drew V).trans (KeepsOthers.setCell V.drew ⟨w.heap.size+1+1,0,none⟩ (nI x.val))).from _,⟨rfl,pre,x,rfl,vF.out,by rw[HKx.out];exact hb,(show Boxed V.drew (w.heap.size+1+1) 3 (.int .i64 0)from hBx).set _⟩,((hB1.trans (hV1.mono hB1.size)).drew).setCell (p:=⟨w.heap.size+1+1,0,none⟩) (by simp;omega) _⟩
 case done=>
  rintro D ys V hD hys ⟨hp,hV1⟩ rJ;have cR:=(xP.below hV1 xP.lt).cell 0;have fR:=(xP.below hV1 xP.lt).frozen 0;simp only[List.getElem?_toArray,List.getElem?_cons_zero]at cR;have hBx:Boxed V (w.heap.size+1+1) 3 (.int .i64 0):=xP.below hV1 xP.lt;go_wp2;have hK':=(KeepsOthers.setCell V ⟨w.heap.size+1+1,0,none⟩ (.int .i64 (-1))).same D _ rJ rfl;refine xH ⟨by simp,.inl ⟨_,_,rfl,run_takeDeferred hK', ?_⟩⟩;have CW:=cell_kept (hBx.set (.int .i64 (-1))).cell (grownBy_putObj' _ D (.deferred none)) (fun r e=>by cases e;exact⟨_,hK',rfl⟩);refine⟨.int .i64 (-1), ?_,by rw[Sv hys hp];rfl,((hB1.trans (hV1.mono hB1.size)).setCell (p:=⟨w.heap.size+1+1,0,none⟩) (by simp;omega) _).trans (belowK_b (w:=w) (Nat.le_refl _) _ D _ _ (by omega) hK' rfl rfl)⟩;simp[results,Tryz.f154,go_sem,CW]
 case stop=>
  rintro D c pre V hD ⟨r,hr⟩ ⟨⟨rfl,pre',x,he,hp,hx,bR1⟩,hV1⟩ rJ
  gi_wp2
  refine xH ⟨by simp,.inl ⟨_,_,rfl,run_takeDeferred rJ, ?_⟩⟩;have CW:=cell_kept bR1.cell (grownBy_putObj' _ D (.deferred none)) (fun r e=>by cases e;exact⟨_,rJ,rfl⟩);refine⟨nI x.val, ?_,by rw[Sw (by rw[he]at hr;exact hr) hp hx];rfl,hV1.trans (belowK_b (w:=w) (Nat.le_refl _) V D _ _ (by omega) rJ rfl rfl)⟩;simp[results,Tryz.f154,go_sem,CW]
end
section
attribute [local go_sem] Oper.semAt_some
theorem qR {w:World}{b b' e size n:Nat}{v:Value}{xs:List Value}(h:w.ownsRow b e size v n xs)(hb:b'≤b):w.ownsRow b' e size v n xs:=
 ⟨h.1,h.2.imp id fun⟨g,cap,cur,h1,h2,h3⟩=>⟨g,cap,cur,h1,Nat.le_trans hb h2,h3⟩⟩
theorem Yl:(Tryz.prog.info? 166).map (fun i=>(i.zero,i.size,i.bytes))=some (some (.agg #[.int .u64 0,.int .u64 0,.int .u64 0]),3,24):=by kernel_rfl
theorem Ce {B base n:Nat}{V V2 w4:World}{e:TypeId}{size:Nat}{v v4:Value}{xs:List Value}(_:B≤V.heap.size)(hb:Below V.heap.size V V2)(ho:V2.ownsRow base e size v n xs)(hg:nA V2 base v w4 v4):KeepsFrom B V w4:=by
 have h1:KeepsOthers V V2:=⟨hb.size,fun k o hk _=>(hb.block k (Array.getElem?_eq_some_iff.1 hk).1).trans hk⟩
 have h2:KeepsOthers V2 w4:=KeepsOthers.of_grownBy hg.kr (fun j o hj ho'=>by
  rcases ho.2 with⟨rfl,_⟩|⟨g,cap,cur,rfl,_,hh,_⟩
  ·simp[Value.ownBlock]at hj
  ·have:g=j:=by simpa[Value.ownBlock]using hj
   subst this;rw[hh]at ho'
   cases ho';rfl)
 exact(h1.trans h2).from B
theorem Ym:sH Tryz.prog 341 166 3 24:=AP Tryz.underlying341 Yl rfl (by decide) (by decide)
def uR (l:List Nat)(es:List av):List av:=(cZ 0 (qI l)).map fun i=>es.getD i ⟨0,0,0⟩
def atR (es:List av)(pre:List (Fin 8)):List av:=pre.map fun x=>es.getD x.val ⟨0,0,0⟩
theorem H7 (l:List Nat):Marks (qI l):=rD _
theorem PW (l:List Nat):(qI l).length=l.length:=by simp[qI,CJ]
theorem Nk {l:List Nat}{es:List av}{ys:List (Fin 8)}(hys:ys.map Fin.val=cZ 0 ((qI l).map eu)):atR es ys=uR l es:=by
 rw[vg (H7 l)]at hys;unfold uR atR;rw[←hys,List.map_map];rfl
theorem Yn (es:List av)(pre:List (Fin 8))(x:Fin 8):(atR es (pre++[x])).flatMap aV=(atR es pre).flatMap aV++aV (es.getD x.val ⟨0,0,0⟩):=by simp[atR]
theorem Nl (gb:Nat)(t:TypeId)(ahead post:List Value)(go:Nat)(l:List Nat)(es:List av)(w:World)(h:cO w gb t ahead post go l es)(hT:fP w):
  Calls Tryz.prog 266 #[bC ⟨gb,go,none⟩] w fun e w'=>∃A c,e= .returned (.slice A (uR l es).length c)∧w'.ownsRow w.heap.size 166 3 (.slice A (uR l es).length c) (uR l es).length ((uR l es).flatMap aV)∧Below w.heap.size w w':=by
 obtain⟨W,hW,hB,hV,hO⟩:=kN w 201 #[.pointer (some ⟨gb,go,none⟩)] 341 #[.slice none 0 0];have hG:=h.below hB;have HF:=qd (R9 l h.l8 h.bytes);have HW:=qd hW;have HB:=qd hB;have hg:=World.block_lt_of_cell? w _ (hT 0 (by omega));have Nj:=h.l8;unfold bC;clear hW hB;refine(callsIn_wide (n:=10)).1 ?_
 have h1:1≤10:=by omega
 refine kV Tryz.func266 rfl trivial rfl ?_;simp only[Tryz.ntmps266,List.size_toArray,List.length_cons,List.length_nil,Nat.reduceAdd,Nat.reduceSub,Array.replicate_succ,Array.replicate_zero,List.push_toArray,List.append_toArray,List.nil_append,List.cons_append];refine wpIn_wide.2 ?_;go_upto_region 2 with fail;rw[←HW.out];have v0:=hV.cell 0;simp only[List.getElem?_toArray,List.getElem?_cons_zero]at v0;have hw:=hG.word;go_wp2_with fail;refine(HF.out _).mono ?_;rintro e w1 ⟨rfl,rfl⟩;go_wp2_with fail;refine(Hz (qI l) _).mono ?_;rintro e w1 ⟨rfl,hw1⟩;have hb1:Below W.heap.size W w1:=hw1▸(Below.refl W.heap.size W).alloc (Nat.le_refl _) _;have hL1:aj w1 W.heap.size 41 #[.int .u64 ((w8 (qI l):Nat):Int)]:=hw1▸aj.new W _ _;clear hw1;replace v0:=aI hb1 v0;replace hw:=aI hb1 hw;go_wp2_with fail;refine(wpIn_wide (n:=10)).1 ?_;have hB1:Below w.heap.size w w1:=bP hb1 HB.out;have hlt3:w.heap.size+1<W.heap.size:=hO.lt;have hgl:gb<w.heap.size:=h.lt;have hT1:fP w1:=fun i hi=>(hB1.cell (p:=⟨17,pO i,none⟩) hg).trans (hT i hi);have hG1:=hG.below hb1;have yQ:Boxed w1 (w.heap.size+1) 341 (.slice none 0 0):=hO.below hb1 hO.lt;have hbl:=hB1.size;have hbs:=hb1.size;clear h
 refine wpIn_rangeFunc_ownH rfl h1 (gf:=251) (lb:= #[pQ W.heap.size]) rfl trivial (enters_of Tryz.func251 (by kernel_rfl) rfl)
  (ET (10-1) (by omega) W.heap.size w1.heap.size [w.heap.size+1] (qI l) (by rw[PW];exact Nj) (H7 l).bytes w1 (by omega) (by simp;omega) (Nat.le_refl _) hL1.lt (hL1.cell 0) hT1) dN (xG (Nat.le_refl _)) (Below.refl _ _) (fun _=>rfl)
  (fun pre V=>(∃v,Boxed V (w.heap.size+1) 341 v∧V.ownsRow w1.heap.size 166 3 v pre.length ((atR es pre).flatMap aV)∧True)∧aY w1.heap.size [w.heap.size+1] w1 V)
  (fun _ _ _=>False)
  (OwnFrom.and (Own.from (holdsRow_own w1.heap.size (w.heap.size+1) 341 166 3 List.length (fun pre=>(atR es pre).flatMap aV) (fun _ _=>True)) _) (qK (Nat.le_refl _) (Nat.le_refl _)))
  (fun _ _ _ _ _ hs _ _=>hs)
  ⟨⟨_,yQ,⟨by simp[atR],.inl ⟨rfl,rfl⟩⟩,trivial⟩,aY.refl _ _ _⟩
  (fun x a' _=>a'={tmps:= #[.agg #[.pointer (some ⟨gb,go,none⟩)],pQ w.heap.size,.slice none 0 0,.pointer (some ⟨w.heap.size+1,0,none⟩),nI x.val,pQ w.heap.size,.pointer (some ⟨gb,go,none⟩),.pointer (some ⟨gb,go,none⟩),.pointer (some ⟨gb,go,none⟩),.int .u64 ((w8 l:Nat):Int),.int .u64 ((w8 (qI l):Nat):Int),.func (.func 251) #[] #[pQ W.heap.size],nI x.val,undef,undef,undef,undef,undef,undef,undef,undef,undef,undef,undef],defers:=[]})
  (fun _ _ _ _ _ _ hs _ _=>hs) ?assign ?body ?done ?stop
 case assign=>
  rintro lp pre x V K hi hK
  gi_wp2
  exact hK _ _ (KeepsFrom.refl _ _) (aY.refl _ _ _) hi rfl
 case body=>
  rintro lp pre x a' V hl ⟨r,hr⟩ ⟨⟨v,wI,hO,-⟩,oK⟩ rfl hlt;have Kh:x.val<8:=x.isLt;have adU:gb<w1.heap.size:=hG1.lt
  have hgn:gb∉[w.heap.size+1]:=by simp;omega
  have hv:=(oK.cell (p:=⟨w.heap.size,0,none⟩) (by show w.heap.size<_;omega) (by simp)).trans v0;have hGV:cO V gb t ahead post go l es:=⟨hG1.len,hG1.l8,hG1.bytes,hG1.e8,oK.blk hG1.blk adU hgn⟩;obtain⟨A,c,rfl⟩:=bA hO;have ho:=wI.cell;have s0:=hGV.at_ x.val 0 Kh (by omega);have s1:=hGV.at_ x.val 1 Kh (by omega);have s2:=hGV.at_ x.val 2 Kh (by omega);rw[Nat.add_zero]at s0
  have hxi:(x.val:Int)<8:=by omega
  have hx0:(0:Int)≤(x.val:Int):=by omega
  have dZ:=qd (Yn es pre x);have CX:=oK.size;clear hGV;generalize es.getD x.val ⟨0,0,0⟩=x1 at*;simp only[aV,List.getElem?_cons_zero,List.getElem?_cons_succ]at s0 s1 s2
  gi_wp2_with fail
  refine AY (fun(w':World)=>w'.cell? ⟨w.heap.size,0,none⟩=some (.pointer (some ⟨gb,go,none⟩))∧w'.cell? ⟨w.heap.size+1,0,none⟩=some (.slice A pre.length c)∧w'.cell? ⟨gb,go+1+x.val*3,none⟩=some (nU x1.key)∧w'.cell? ⟨gb,go+1+x.val*3+1,none⟩=some (nU x1.val)∧w'.cell? ⟨gb,go+1+x.val*3+2,none⟩=some (nU x1.hash)) [9,10] (by kernel_rfl) (by kernel_rfl) (by rintro⟨_,_,h⟩;exact h) ?_
  try (change bE _ _ _ _ _ _ _ _ _ (World.drew _))
  have hHeld:=(⟨hv,ho,s0,s1,s2⟩:_∧_∧_∧_∧_);refine vT 0 rfl ?_;refine vW 1 rfl ?_;refine vW 3 rfl ?_;refine nT 2 rfl fun K hK=> ?_;go_simp;refine kO hK ?_;clear hK K;refine vW 4 rfl ?_;refine vW 5 rfl ?_;refine vW 6 rfl ?_;refine vT 7 rfl ?_;refine nT 8 rfl fun K hK=> ?_;go_simp;have hb2:Below V.heap.size V (V.alloc (.cells #[nU x1.key,nU x1.val,nU x1.hash] 166)).drew:=((Below.refl V.heap.size V).alloc (Nat.le_refl _) _).drew;obtain⟨V2,hV2⟩:∃V2,V2=(V.alloc (.cells #[nU x1.key,nU x1.val,nU x1.hash] 166)).drew:=⟨_,rfl⟩;have hN2:aj V2 V.heap.size 166 #[nU x1.key,nU x1.val,nU x1.hash]:=hV2▸(aj.new V _ _).drew;have hO2:V2.ownsRow w1.heap.size 166 3 (.slice A pre.length c) pre.length ((atR es pre).flatMap aV):=own_below hO (hV2▸hb2) (Nat.le_refl _);rw[←hV2]at hb2⊢;clear hV2;have hHeld:=(⟨aI hb2 hv,aI hb2 ho,aI hb2 s0,aI hb2 s1,aI hb2 s2⟩:_∧_∧_∧_∧_);refine kO hK ?_;clear hK K;refine nT 9 rfl fun K hK=> ?_;refine eB (by rfl) (by rfl) Ym hO2 (by rfl) (by rfl) (rF (size:=3) (m:=1) hN2 (by rfl)) (by rfl) (by omega) (by have:=hb2.size;have:=CX;omega) ?_;intro v4 w4 dG ig;obtain⟨A4,c4,rfl⟩:=bA dG;have hox:Boxed w4 (w.heap.size+1) 341 (.slice A pre.length c):=(ig.below.block _ (by omega)).trans ((hb2.block _ wI.lt).trans wI);have o4:=hox.cell;have f4:=hox.frozen;have hK4:aY w1.heap.size [w.heap.size+1] w1 w4:=dN oK (dN ((Mod.of_below hb2 _).wW CX) (aY.of_below ig.below));have CY:KeepsFrom w1.heap.size V w4:=Ce CX hb2 hO2 ig
  refine kO hK ?_;clear hK K;refine nT 10 rfl fun K hK=> ?_;go_simp;refine kO hK ?_;clear hK K;refine aR (by kernel_rfl) ?_ _;have hfin:Boxed (w4.setCell ⟨w.heap.size+1,0,none⟩ (.slice A4 (pre.length+1) c4)) (w.heap.size+1) 341 (.slice A4 (pre.length+1) c4):=hox.set _
  have Yo:(Value.slice A4 (pre.length+1) c4).ownBlock≠some (w.heap.size+1):=fun he=>by
   have:=(dG.lt _ he).1;omega
  have hown5:=dG.kept (grownBy_setCell' w4 (w.heap.size+1) (.slice A4 (pre.length+1) c4)) (.inr Yo);have wo:=CY.trans ((KeepsOthers.setCell w4 ⟨w.heap.size+1,0,none⟩ (.slice A4 (pre.length+1) c4)).from _);have rM:aY w1.heap.size [w.heap.size+1] w1 (w4.setCell ⟨w.heap.size+1,0,none⟩ (.slice A4 (pre.length+1) c4)):=hK4.ak (.inl (by simp)) _ _;have U1:aY w1.heap.size [w.heap.size+1] V (w4.setCell ⟨w.heap.size+1,0,none⟩ (.slice A4 (pre.length+1) c4)):=(dN ((Mod.of_below hb2 _).wW CX) (aY.of_below ig.below)).ak (.inl (by simp)) _ _;have HE:=qd (And.intro wo (And.intro U1 (And.intro (And.intro hfin hown5) rM)));clear wo U1 hfin hown5 rM CY hK4 dG ig hox
  gi_wp2
  exact⟨HE.out.1,HE.out.2.1,⟨_,HE.out.2.2.1.1,by rw[dZ.out,List.length_append];exact HE.out.2.2.1.2⟩,HE.out.2.2.2⟩
 case done=>
  rintro D ys V hD hys ⟨⟨v,wI,hO,-⟩,oK⟩ rJ;obtain⟨A,c,rfl⟩:=bA hO;have ho:=wI.cell
  have hlen:ys.length=(uR l es).length:=by rw[←Nk hys];simp[atR]
  rw[Nk hys,hlen]at hO;rw[hlen]at wI ho;have QF:=(Mod.of_below hB1 [w.heap.size+1]).then oK.mod;have gG:=qd hO;clear hO;go_wp2;refine xH ⟨by simp,.inl ⟨_,_,rfl,run_takeDeferred rJ, ?_⟩⟩;refine⟨.slice A (uR l es).length c, ?_,A,c,rfl, ?_, ?_⟩
  ·simp[results,Tryz.f266,go_sem]
  ·exact qR (ownsRow_putObj gG.out _ rJ rfl) (by omega)
  ·exact(QF.below (by simp) (Nat.le_refl _)).trans (belowK_b (w:=w) (Nat.le_refl _) V D _ _ (by omega) rJ rfl rfl)
 case stop=>
  rintro D c pre V hD hS hI;exact hI.elim
end
end Go.Proofs.YtnfjjbpmhcbelaaGreatDoor
