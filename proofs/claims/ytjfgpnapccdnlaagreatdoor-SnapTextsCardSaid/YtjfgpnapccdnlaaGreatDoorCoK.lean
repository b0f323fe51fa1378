/- Going over a mask's lanes, and over the places of a walk, by their contracts. -/
import Derived.RangeFuncNested
import Derived.Test.YtjfgpnapccdnlaaGreatDoorBuilder
import Derived.RangeFuncBound
import Derived.RangeFuncCalls
import Derived.RangeFuncLeaves
import Derived.RangeFuncBox
import Derived.Shelf.Abstract
import Derived.Shelf.RegionOpen
import Derived.WalkKit
import Derived.OwnWalkIn
import Derived.TacticsInMore
import Derived.LoopNIn
import Derived.LoopIn
import Derived.Test.YtjfgpnapccdnlaaGreatDoorErrs
import Derived.Test.YtjfgpnapccdnlaaGreatDoorSqT
import Derived.OrdersIn
import Derived.ControlIn
import Derived.Test.YtjfgpnapccdnlaaGreatDoorCoJ
namespace Go.Proofs.YtjfgpnapccdnlaaGreatDoor
set_option maxRecDepth 100000
set_option maxHeartbeats 2000000
open Go.RowKit Go.Shelf dF Go
section
variable {n n₀ : Nat} {S : List Nat} {A w w' : World} {P : Program}
attribute [local go_sem] Oper.semAt_some
structure aT (n₀:Nat)(S:List Nat)(A B:World):Prop where
 os:B.os=A.os
 tape:B.tape=A.tape
 output:B.output=A.output
 size:A.heap.size≤B.heap.size
 block:∀k,k<n₀→k∉S→B.heap[k]?=A.heap[k]?
theorem aT.refl (n₀:Nat)(S:List Nat)(w:World):aT n₀ S w w:=⟨rfl,rfl,rfl,Nat.le_refl _,fun _ _ _=>rfl⟩
theorem aT.drew (n₀:Nat)(S:List Nat)(w:World):aT n₀ S w w.drew:=⟨rfl,rfl,rfl,Nat.le_refl _,fun _ _ _=>rfl⟩
theorem dI {B C:World}(h:aT n₀ S A B)(k:aT n₀ S B C):aT n₀ S A C:=
 ⟨k.os.trans h.os,k.tape.trans h.tape,k.output.trans h.output,Nat.le_trans h.size k.size,fun i hi hs=>(k.block i hi hs).trans (h.block i hi hs)⟩
theorem Mod.wS {B:World}(h:Mod S A B)(hn:n₀≤A.heap.size):aT n₀ S A B:=
 ⟨h.os,h.tape,h.output,h.size,fun k hk hs=>h.block k (Nat.lt_of_lt_of_le hk hn) hs⟩
theorem aT.of_below {B:World}(h:Below n₀ A B):aT n₀ S A B:=⟨h.os,h.tape,h.output,h.size,fun k hk _=>h.block k hk⟩
theorem aT.ak (h:aT n₀ S w w'){b:Nat}(hb:b∈S∨n₀≤b)(o:Nat)(u:Value):aT n₀ S w (w'.setCell ⟨b,o,none⟩ u):=
 ⟨h.os,h.tape,h.output,by simpa using h.size,fun k hk hn=>by
  have hne:k≠b:=by rintro rfl;rcases hb with hb|hb;exact hn hb;omega
  exact(Below.heap_setCell w' ⟨b,o,none⟩ u k hne).trans (h.block k hk hn)⟩
theorem xC (hn:n₀≤w.heap.size)(W:World)(l:Nat)(o o':Obj)(hl:w.heap.size≤l)(_:W.heap[l]?=some o)(_:o.isCells=false)(_:o.isWalk=false):aT n₀ S W (W.putObj l o'):=
 ⟨rfl,rfl,rfl,by simp,fun k hk _=>World.putObj_heap_other (by omega)⟩
theorem aT.grown {a:World}{row:Option Nat}(h:aT n₀ S a w)(hg:w.grownBy w' row)(hn:n₀≤w.heap.size)(hr:∀k,row=some k→n₀≤k):aT n₀ S a w':=
 dI h ⟨hg.os,hg.tape,hg.output,hg.size,fun k hk _=>hg.block k (by omega) (fun e=>by have:=hr k e.symm;omega)⟩
theorem qD {β:Type}{B:Nat}{w₀:World}(hn:n₀≤w₀.heap.size)(hB:n₀≤B):OwnFrom B (fun(_:β) W=>aT n₀ S w₀ W):=
 fun _ _ _ _ hs hg hr=>hs.grown hg (Nat.le_trans hn hs.size) (fun k e=>Nat.le_trans hB (hr k e).1)
theorem aT.cell {B:World}(h:aT n₀ S A B){p:Addr}(hp:p.block<n₀)(hs:p.block∉S):B.cell? p=A.cell? p:=World.cell?_of_block (w:=A) (h.block p.block hp hs)
theorem aT.mod {B:World}(h:aT A.heap.size S A B):Mod S A B:=⟨h.os,h.tape,h.output,h.size,fun k hk hs=>h.block k hk hs⟩
theorem aT.tz {B:World}(h:aT n₀ S A B)(hg:21 <n₀)(hs:21 ∉S)(hT:gF A):gF B:=fun i hi=>(h.cell (p:=⟨21,pJ i,none⟩) hg hs).trans (hT i hi)
theorem aT.blk {B:World}{g:Nat}{t:TypeId}{cs:Array Value}(h:aT n₀ S A B)(hb:aj A g t cs)(hg:g<n₀)(hs:g∉S):aj B g t cs:=(h.block g hg hs).trans hb
theorem um {f:FuncId}{args:Array Value}{q:Nat}{R:Ending→World→Prop}(h:Calls P f args w R):CallsIn Fence.wide q P f args w R:=callsIn_wide.2 h
abbrev Ai (x:Nat):Array Value:= #[.int .i64 (x:Int)]
theorem Wl (q:Nat)(hq:1≤q)(lp Bs:Nat)(l:List Nat)(hl:l.length=8)(hb:Bytes l)(Kp:World→World→Prop)(hT:∀A B,Kp A B→gF A→gF B)(J Jx:List Nat→World→Prop)(hY:∀pre x W,x<8→J pre W→pre.length<8→YieldAt Fence.wide (q-1) Tryz.prog lp (Ai x) W fun e W'=>
   (e= .returned (.bool true)∧J (pre++[x]) W'∧Kp W W')∨(e= .returned (.bool false)∧Jx (pre++[x]) W')) (W:World) (hc:W.cell? ⟨Bs,0,none⟩=some (.int .u64 ((w8 l:Nat):Int))) (nY:gF W) (h0:J [] W):
  CallsIn Fence.wide q Tryz.prog 248 #[.func (.yield lp) #[] #[],.pointer (some ⟨Bs,0,none⟩)] W fun e W'=>(∃v,e= .returned v)∧
   ((∃ys,ys=bW 0 (l.map eB)∧J ys W')∨(∃pre,(∃r,pre++r=bW 0 (l.map eB))∧Jx pre W')):=by
 have HH:=qd (fun V=>um (q:=q-1) (uT l hl hb V));have HF:=qd (fun(m:List Nat) (hm:Marks m) (hml:m.length=8) (i:Nat) (hi:firstM m=some i) (V:World) (hV:gF V)=>um (q:=q-1) (yT m hml hm.bytes i (by rw[uS hm];exact hi) V hV));obtain⟨L,hL⟩:∃L,L=bW 0 (l.map eB):=⟨_,rfl⟩;have hm0:=qY l
 have hl0:(l.map eB).length=8:=by simpa using hl
 have hL8:L.length≤8:=by rw[hL];have:=CY (l.map eB) 0;omega
 rw[←hL];have HL:=qd hL;clear hL hl hb;refine callsIn_of_wp Tryz.func248 rfl trivial ?_ rfl;simp only[Tryz.ntmps248,List.size_toArray,List.length_cons,List.length_nil,Nat.reduceAdd,Nat.reduceSub,Array.replicate_succ,Array.replicate_zero,List.push_toArray,List.append_toArray,List.nil_append,List.cons_append]
 gi_wp2_with (refine⟨trivial, ?_⟩;gi_at_call 247;refine(HH.out _).mono ?_;rintro e w' ⟨rfl,rfl⟩)
 gi_loopw [3] (fun v wr=>∃(m:List Nat) (pre:List Nat),Marks m∧m.length=8∧v= .int .u64 ((w8 m:Nat):Int)∧Hid (pre++bW 0 m=L)∧J pre wr∧gF wr) (fun v _=>(intOf v).toNat)
 case atStart=>exact⟨_,[],hm0,hl0,rfl,qd HL.out.symm,h0,nY⟩
 case round=>
  obtain⟨m,pre,hm,hml,rfl,HP,hJ,hTr⟩:=hrel;have Wm:=qd hTr;clear hTr;by_cases hz:w8 m=0
  ·have hz':(((w8 m:Nat):Int) !=0)=false:=by rw[hz];rfl
   have hn:=(pI hm).1 hz;have hp:=HP.out;rw[Ic 0 hn,List.append_nil]at hp;have TW:=qd hp;clear hz hn hp
   gi_wp2
   go_end0;exact⟨⟨_,rfl⟩,.inl ⟨_,TW.out,hJ⟩⟩
  ·have hz':(((w8 m:Nat):Int) !=0)=true:=by rw[bne_iff_ne];omega
   obtain⟨i,hi⟩:=QO hm hz;have hp:=HP.out;rw[Ib 0 hi,Nat.zero_add]at hp
   have hlen:pre.length<8:=by have:=congrArg List.length hp;simp at this;omega
   have hdv:=YO hm hml hz;have hdl:=RP hm hz;have TW:=qd hp;have HD:=qd hdv;have KQ:=qd (HF.out m hm hml i hi wr Wm.out);have Hi:=qd hi;obtain⟨fn,tmps,assign,body,hy,Fw⟩:=hY pre i wr (by have:=Gj hi;omega) hJ hlen;simp only[Ai]at hy Fw;clear hp hi hdv hz
   gi_wp2_with (refine⟨trivial, ?_⟩;gi_at_call 204;refine KQ.out.mono ?_;rintro e w' ⟨rfl,rfl⟩)
   refine Fw.mono ?_;rintro e W3 (⟨rfl,hJ3,hk3⟩|⟨rfl,hJx3⟩)
   ·gi_wp2
    rw[HD.out];go_roundw
    case rel=>exact⟨mg m,pre++[i],Ia hm,by rw[CX];exact hml,rfl,qd (by rw[List.append_assoc];exact TW.out),hJ3,hT _ _ hk3 Wm.out⟩
    case measure=>simp[intOf];omega
   ·gi_wp2
    refine bodyPost_ret (results_none rfl _ _ _) rfl ?_;exact⟨⟨_,rfl⟩,.inr ⟨_,⟨bW 0 (mg m),by rw[List.append_assoc];exact TW.out⟩,hJx3⟩⟩
theorem IC (l:List Nat)(w:World):Calls Tryz.prog 206 #[.int .u64 ((w8 l:Nat):Int)] w fun e w'=>e= .returned (.func (.func 248) #[] #[.pointer (some ⟨w.heap.size,0,none⟩)])∧w.alloc (.cells #[.int .u64 ((w8 l:Nat):Int)] 28)=w':=by
 go_in;go_wp2;go_ret;exact⟨rfl,rfl⟩
theorem ab3 (hn:Pw n){a:Nat}(ha:a<128):bits .and .i64 (a:Int) ((n:Int)-1)=((a % n:Nat):Int):=by
 have H:∀n∈([1,2,4,8,16,32,64]:List Nat),∀a:Fin 128,bits .and .i64 (a.val:Int) ((n:Int)-1)=((a.val % n:Nat):Int):=by decide+kernel
 have hm:n∈([1,2,4,8,16,32,64]:List Nat):=by unfold Pw at hn;simp;omega
 exact H n hm ⟨a,ha⟩
def Dh (h n j:Nat):Nat:=(h+(Ij j-j)) % n
theorem Om (j:Nat):Ij (j+1)=Ij j+(j+1):=by
 unfold Ij
 have:(j+1)*(j+1+1)=j*(j+1)+2*(j+1):=by rw[Nat.mul_add (j+1) (j+1) 1,Nat.add_mul,Nat.mul_comm j (j+1)];omega
 rw[this];omega
theorem ac4 (j:Nat):j≤Ij j:=by
 cases j with
 |zero=>exact Nat.zero_le _
 |succ j=>rw[Om];omega
theorem Y9 (h n j:Nat):(Dh h n j+j) % n=bR h n j:=by
 unfold Dh bR;rw[Nat.mod_add_mod];have:=ac4 j;congr 1;omega
theorem Za (h n j:Nat):Dh h n (j+1)=bR h n j:=by
 unfold Dh bR;rw[Om,Nat.add_sub_cancel]
theorem Zb (h n:Nat):Dh h n 0=h % n:=by simp[Dh,Ij]
theorem Di (h n j:Nat)(hj:j≤n):(walk h n).take j=(List.range j).map (bR h n):=by
 unfold walk;rw[←List.map_take,List.take_range,Nat.min_eq_left hj]
theorem Zc (q:Nat)(hq:1≤q)(lp Bg Bh:Nat)(h n:Nat)(h64:h<18446744073709551616)(hn:Pw n)(Kp:World→World→Prop)(hKr:∀W,Kp W W)(hKt:∀{A B C:World},Kp A B→Kp B C→Kp A C)(hKc:∀(W W':World) (v:Value),Kp W W'→W.cell? ⟨Bg,0,none⟩=some v→W'.cell? ⟨Bg,0,none⟩=some v)(J Jx:List Nat→World→Prop)(hY:∀pre x W,x<n→J pre W→pre.length<64→YieldAt Fence.wide (q-1) Tryz.prog lp (Ai x) W fun e W'=>
   (e= .returned (.bool true)∧J (pre++[x]) W'∧Kp W W')∨(e= .returned (.bool false)∧Jx (pre++[x]) W')) (W:World) (hcg:W.cell? ⟨Bg,0,none⟩=some (.int .i64 (n:Int))) (hch:W.cell? ⟨Bh,0,none⟩=some (.int .u64 (h:Int))) (h0:J [] W):
  CallsIn Fence.wide q Tryz.prog 202 #[.func (.yield lp) #[] #[],.pointer (some ⟨Bg,0,none⟩),.pointer (some ⟨Bh,0,none⟩)] W fun e W'=>(∃v,e= .returned v)∧
   ((∃ys,ys=walk h n∧J ys W')∨(∃pre,(∃j,j≤n∧pre=(walk h n).take j)∧Jx pre W')):=by
 have HR:=qd (fun V=>um (q:=q-1) (QT n hn V));have HH:=qd (fun V=>um (q:=q-1) (TM h n h64 hn V));have HA:=qd (fun(a:Nat) (ha:a<128)=>ab3 hn ha)
 have hn1:(1:Int)≤(n:Int):=by have:=hn.pos;omega
 have hn2:(n:Int)≤64:=by have:=hn.le;omega
 have hpos:=hn.pos;have HN:=qd hn;clear hn;refine callsIn_of_wp Tryz.func202 rfl trivial ?_ rfl;simp only[Tryz.ntmps202,List.size_toArray,List.length_cons,List.length_nil,Nat.reduceAdd,Nat.reduceSub,Array.replicate_succ,Array.replicate_zero,List.push_toArray,List.append_toArray,List.nil_append,List.cons_append]
 gi_wp2_with (first
  |(refine⟨trivial, ?_⟩;gi_at_call 197;refine(HR.out _).mono ?_;rintro e w' ⟨rfl,rfl⟩)
  |(refine⟨trivial, ?_⟩;gi_at_call 203;refine(HH.out _).mono ?_;rintro e w' ⟨rfl,rfl⟩))
 gi_loopw [4,5,13] (fun a _ i wr=>∃j:Nat,j≤n∧i= .int .i64 (j:Int)∧a= .int .i64 ((Dh h n j:Nat):Int)∧J ((walk h n).take j) wr∧Kp W wr) (fun _ _ i _=>n-(intOf i).toNat)
 case atStart=>exact⟨0,Nat.zero_le _,rfl,congrArg (Value.int .i64) (by rw[Zb];omega),h0,hKr _⟩
 case round=>
  obtain⟨j,hj,rfl,rfl,hJ,hK⟩:=hrel;by_cases hlt:j<n
  ·have hlt':(j:Int)<(n:Int):=by omega
   have agz:=hKc _ _ _ hK hcg;have ha0:Dh h n j<n:=Nat.mod_lt _ hpos;have hv:=HA.out (Dh h n j+j) (by have:=HN.out.le;omega);rw[Y9]at hv
   have hv2:bits .and .i64 (((Dh h n j:Nat):Int)+(j:Int)) ((n:Int)-1)=((bR h n j:Nat):Int):=by rw[←hv];congr 1
   have hnx:=Za h n j
   have htk:(walk h n).take (j+1)=(walk h n).take j++[bR h n j]:=by
    rw[Di _ _ _ hlt,Di _ _ _ hj,List.range_succ,List.map_append];rfl
   have hlen:((walk h n).take j).length<64:=by rw[Di _ _ _ hj];simp;have:=HN.out.le;omega
   obtain⟨fn,tmps,assign,body,hy,Fw⟩:=hY _ (bR h n j) wr (Nat.mod_lt _ hpos) hJ hlen;simp only[Ai]at hy Fw;generalize bR h n j=x at*;generalize Dh h n j=b at*;have HT:=qd htk;have HX:=qd hnx
   have hb0:(0:Int)≤(b:Int):=by omega
   have hb1:(b:Int)<64:=by omega
   clear hv htk hnx
   gi_wp2
   refine Fw.mono ?_;rintro e W3 (⟨rfl,hJ3,hk3⟩|⟨rfl,hJx3⟩)
   ·gi_wp2
    go_roundw
    case rel=>exact⟨j+1,by omega,by go_num,by rw[HX.out],by rw[HT.out];exact hJ3,hKt hK hk3⟩
    case measure=>simp[intOf];omega
   ·gi_wp2
    refine bodyPost_ret (results_none rfl _ _ _) rfl ?_;exact⟨⟨_,rfl⟩,.inr ⟨_,⟨j+1,by omega,HT.out.symm⟩,hJx3⟩⟩
  ·obtain rfl:j=n:=by omega
   have hlt':¬(j:Int)<(j:Int):=by omega
   have hw:(walk h j).take j=walk h j:=List.take_of_length_le (by simp[walk]);rw[hw]at hJ;clear hw
   gi_wp2
   go_end0
   first|exact⟨⟨_,rfl⟩,.inl ⟨_,rfl,hJ⟩⟩|exact⟨⟨_,rfl⟩,.inl hJ⟩
theorem TY (h n:Nat)(w:World):Calls Tryz.prog 137 #[.int .u64 (h:Int),.int .i64 (n:Int)] w fun e w'=>e= .returned (.func (.func 202) #[] #[.pointer (some ⟨w.heap.size+1,0,none⟩),.pointer (some ⟨w.heap.size,0,none⟩)])∧(w.alloc (.cells #[.int .u64 (h:Int)] 28)).alloc (.cells #[.int .i64 (n:Int)] 3)=w':=by
 go_in;go_wp2;go_ret;exact⟨rfl,rfl⟩
abbrev Oo {n:Nat}(x:Fin n):Array Value:=Ai x.val
def Bu {n:Nat}(J:List (Fin n)→World→Prop)(pre:List Nat)(W:World):Prop:=∃p:List (Fin n),p.map Fin.val=pre∧J p W
theorem Fx {N:Nat}{F:Fence}{m l:Nat}{J Jx:List (Fin n)→World→Prop}{Kp:World→World→Prop}(hY:∀pre x W1,J pre W1→pre.length<N→YieldAt F m P l (Oo x) W1 fun e W'=>(e= .returned (.bool true)∧J (pre++[x]) W'∧Kp W1 W')∨(e= .returned (.bool false)∧Jx (pre++[x]) W')):
  ∀pre x W1,x<n→Bu J pre W1→pre.length<N→YieldAt F m P l (Ai x) W1 fun e W'=>(e= .returned (.bool true)∧Bu J (pre++[x]) W'∧Kp W1 W')∨(e= .returned (.bool false)∧Bu Jx (pre++[x]) W'):=by
 rintro pre x W1 hx ⟨p,rfl,hJ⟩ hlen;obtain⟨fn,tmps,assign,body,hy,Fw⟩:=hY p ⟨x,hx⟩ W1 hJ (by simpa using hlen);refine⟨fn,tmps,assign,body,hy,Fw.mono fun e W' he=> ?_⟩;rcases he with⟨h1,h2,h3⟩|⟨h1,h2⟩
 ·exact .inl ⟨h1,⟨_,by simp,h2⟩,h3⟩
 ·exact .inr ⟨h1,⟨_,by simp,h2⟩⟩
theorem Fy (q:Nat)(hq:1≤q)(Bs n₀:Nat)(S:List Nat)(l:List Nat)(hl:l.length=8)(hb:Bytes l)(w:World)(hg:21 <n₀)(hs:21 ∉S)(hn₀:n₀≤w.heap.size)(hBs:Bs<w.heap.size)(hc:w.cell? ⟨Bs,0,none⟩=some (.int .u64 ((w8 l:Nat):Int)))(hT:gF w):
  SeqStopsK (α:=Fin 8) Fence.wide q Tryz.prog 248 #[.pointer (some ⟨Bs,0,none⟩)] Oo (aT n₀ S) (fun ys=>ys.map Fin.val=bW 0 (l.map eB)) (fun pre=>∃r,pre.map Fin.val++r=bW 0 (l.map eB)) 8 w:=fun lp J Jx W hW _ _ hY h0=>
 (Wl q hq lp Bs l hl hb (aT n₀ S) (fun _ _ h=>h.tz hg hs) (Bu J) (Bu Jx) (Fx hY) W ((hW.cell (p:=⟨Bs,0,none⟩) hBs).trans hc) (fun i hi=>(hW.cell (p:=⟨21,pJ i,none⟩) (Nat.lt_of_lt_of_le hg hn₀)).trans (hT i hi)) ⟨[],rfl,h0⟩).mono fun e W' he=>by
  obtain⟨hv,⟨ys,hys,p,hp,hJ⟩|⟨pre,⟨r,hr⟩,p,hp,hJ⟩⟩:=he
  ·exact⟨hv,.inl ⟨p,hp.trans hys,hJ⟩⟩
  ·exact⟨hv,.inr ⟨p,⟨r,by rw[hp];exact hr⟩,hJ⟩⟩
theorem T9 (q:Nat)(hq:1≤q)(Bg Bh n₀:Nat)(S:List Nat)(h n:Nat)(h64:h<18446744073709551616)(hn:Pw n)(w:World)(hBg:Bg<n₀)(hgs:Bg∉S)(Co:Bh<w.heap.size)(hn₀:n₀≤w.heap.size)(hcg:w.cell? ⟨Bg,0,none⟩=some (.int .i64 (n:Int)))(hch:w.cell? ⟨Bh,0,none⟩=some (.int .u64 (h:Int))):
  SeqStopsK (α:=Fin n) Fence.wide q Tryz.prog 202 #[.pointer (some ⟨Bg,0,none⟩),.pointer (some ⟨Bh,0,none⟩)] Oo (aT n₀ S) (fun ys=>ys.map Fin.val=walk h n) (fun pre=>∃j,j≤n∧pre.map Fin.val=(walk h n).take j) 64 w:=fun lp J Jx W hW _ _ hY h0=>
 (Zc q hq lp Bg Bh h n h64 hn (aT n₀ S) (aT.refl _ _) dI (fun _ _ _ hk hc=>(hk.cell (p:=⟨Bg,0,none⟩) hBg hgs).trans hc) (Bu J) (Bu Jx) (Fx hY) W ((hW.cell (p:=⟨Bg,0,none⟩) (Nat.lt_of_lt_of_le hBg hn₀)).trans hcg) ((hW.cell (p:=⟨Bh,0,none⟩) Co).trans hch) ⟨[],rfl,h0⟩).mono fun e W' he=>by
  obtain⟨hv,⟨ys,hys,p,hp,hJ⟩|⟨pre,⟨j,hj,hr⟩,p,hp,hJ⟩⟩:=he
  ·exact⟨hv,.inl ⟨p,hp.trans hys,hJ⟩⟩
  ·exact⟨hv,.inr ⟨p,⟨j,hj,hp.trans hr⟩,hJ⟩⟩
end
section
variable {i l n : Nat} {a : Act} {w : World} {F : Fence} {c : Code}
section
variable {P : Program} {ops : Array Oper} {Q : Exit → Act → World → Prop} {md : Region.Mode} {S : World → Prop} {late : List Nat}
def EH (ops:Array Oper):Bool:=ops.all fun o=>match o.op with
 | .defer _=>false
 |_=>true
theorem Oq (h:EH ops=true)(i:Nat)(o:Oper)(hi:ops[i]?=some o)(c:Call):o.op≠ .defer c:=fun he=>by
 obtain⟨hlt,rfl⟩:=Array.getElem?_eq_some_iff.1 hi;have:=Array.all_eq_true.1 h i hlt;rw[he]at this;cases this
theorem Wn {K K':Act→World→Prop}(hnd:EH ops=true)(hQ:¬LetsOut Q)(hK:∀a w,K a w→K' a w)(h:wpOp P ops Q i K a w):wpOpIn (Fence.wide.inRound l) n P ops Q i K' a w:=by
 unfold wpOp at h;unfold wpOpIn
 cases hi:ops[i]? with
 |none=>rw[hi]at h;exact hK _ _ h
 |some o=>
  rw[hi]at h;dsimp only at h⊢;split
  ·next hw=>
   rw[if_pos hw]at h;rcases h with h|⟨_,hl⟩
   ·refine⟨fun _ _=>trivial, ?_⟩;rw[Oper.semAt_eq _ _ _ (Oq hnd i o hi)];unfold Oper.wp at h;generalize(execOp a.eval o).run P w=r at*
    cases r with
    |ok x w'=>
     cases x<;>simp only[Oper.upon,Oper.uponIn]at h⊢
     case value u=>exact hK _ _ h
     case skip=>exact hK _ _ h
     case defer d=>exact hK _ _ h
     case enter f args=>
      refine⟨fun hd=>by simp[Fence.wide]at hd,CallsIn.inRound l ((callsIn_wide.2 h).mono fun e w'' he=> ?_)⟩
      cases e with
      |returned u=>exact hK _ _ he
      |panicked c=>exact he
      |outgrown=>exact he
     case row row args=>
      refine⟨fun hd=>by simp[Fence.wide]at hd,fun c cs _=> ?_⟩;obtain⟨v,w1,h1,h2⟩:=h c cs;exact⟨v,w1,hK _ _ h1,stepsIn_wide.2 h2⟩
    |halt x w'=>cases x<;>simp only[Oper.upon,Oper.uponIn]at h⊢<;>exact h
   ·exact absurd hl hQ
  ·next hw=>
   rw[if_neg hw]at h;exact⟨fun _ _=>trivial,hK _ _ h⟩
theorem IE (hnd:EH ops=true)(hQ:¬LetsOut Q):∀(f:Nat) (listed:Array Bool) (a:Act) (w:World),wpAny P md ops Q f listed a w→wpAnyIn (Fence.wide.inRound l) n P md ops Q f listed a w
 |0,_,_,_,h=>h
 |f+1,_,_,_,h=>⟨h.1,fun i hi=>Wn hnd hQ (fun a' w' h'=>IE hnd hQ f _ a' w' h') (h.2 i hi)⟩
theorem Bv {id:Nat}(S:World→Prop)(late:List Nat)(hm:P.follows .mixedOrders=true)(hnd:EH ops=true)(hQ:¬LetsOut Q)(h:bN P .any ops Q S late ops.size (Array.replicate ops.size false) a {w with drawn:=w.drawn+1}):(Code.region id ops true).wpIn (Fence.wide.inRound l) n P Q a w:=
 wpIn_region_any hm (IE hnd hQ _ _ _ _ (Bc _ _ _ _ h))
theorem pairT {j:Nat}{o o':Oper}{f:Nat}{listed:Array Bool}(hi:ops[i]?=some o)(hj:ops[j]?=some o')(hr:Region.ready md ops listed=[i,j])(h1:∀K:Act→World→Prop,RowKit.Hid (∀a' w',(i∉late→S w')→bN P md ops Q S late f (listed.setIfInBounds i true) a' w'→K a' w')→if Region.wanted o (yielded ops a.tmps)=true then o.wp P a w K Q else K (a.put o.dst undef) w)(h2:∀K:Act→World→Prop,RowKit.Hid (∀a' w',(j∉late→S w')→bN P md ops Q S late f (listed.setIfInBounds j true) a' w'→K a' w')→if Region.wanted o' (yielded ops a.tmps)=true then o'.wp P a w K Q else K (a.put o'.dst undef) w):bN P md ops Q S late (f+1) listed a w:=by
 have one:∀(k:Nat) (x:Oper),ops[k]?=some x→k∈Region.ready md ops listed→
   (∀K:Act→World→Prop,RowKit.Hid (∀a' w',(k∉late→S w')→bN P md ops Q S late f (listed.setIfInBounds k true) a' w'→K a' w')→if Region.wanted x (yielded ops a.tmps)=true then x.wp P a w K Q else K (a.put x.dst undef) w)→
   wpOp P ops Q k (fun a' w'=>(Early late (listed.setIfInBounds k true)→S w')∧bN P md ops Q S late f (listed.setIfInBounds k true) a' w') a w:=by
  intro k x hk hkr h;have hun:listed.getD k true=false:=(mem_ready.1 hkr).1;unfold wpOp;simp only[hk]
  have:=h (fun a' w'=>(Early late (listed.setIfInBounds k true)→S w')∧bN P md ops Q S late f (listed.setIfInBounds k true) a' w') (qd fun a' w' h1 h2=>⟨fun hE=>by
   by_cases hkn:k∈late
   ·have h3:=hE k hkn
    have hlt:k<listed.size:=by
     rcases Nat.lt_or_ge k listed.size with h'|h'
     ·exact h'
     ·simp[Array.getElem?_eq_none h']at hun
    simp[hlt]at h3
   ·exact h1 hkn,h2⟩)
  split
  ·next hw=>rw[if_pos hw]at this;exact .inl this
  ·next hw=>rw[if_neg hw]at this;exact this
 refine⟨(fun h0=>by rw[hr]at h0;cases h0),fun k hk=> ?_⟩;have hk':=hk;rw[hr]at hk;rcases List.mem_cons.1 hk with rfl|hk
 ·exact one _ o hi hk' h1
 ·obtain rfl:k=j:=by simpa using hk
  exact one _ o' hj hk' h2
def ac5 (R:Act→World→Prop)(Q:Exit→Act→World→Prop):Exit→Act→World→Prop
 | .normal,a,w=>R a w
 |e,a,w=>Q e a w
theorem aeR (R:Act→World→Prop)(h:c.wpIn F n P (ac5 R Q) a w)(hR:∀a w,R a w→Q .normal a w):c.wpIn F n P Q a w:=
 wpIn_mono h fun e a w hq=>by cases e<;>first|exact hR _ _ hq|exact hq
def abh (Q:Exit→Act→World→Prop):Exit→Act→World→Prop
 | .panic _,_,_=>False
 |e,a,w=>Q e a w
theorem lu {f:FuncId}{fn:Func}{args:Array Value}{R:Ending→World→Prop}(hf:P.funcs[f]?=some fn)(hb:fn.body=some c)(hF:F.fn f)(hro:F.round=none)(h:c.wpIn F n P (abh (bodyPostM F n P fn R)) {tmps:=args++Array.replicate (fn.ntmps-args.size) undef,defers:=[]} w):CallsIn F n P f args w R:=
 callsIn_of_wp_marks hf hb hF (wpIn_mono h fun e _ _ hq=>by cases e<;>first|exact hq|exact hq.elim) hro
end
end
section
variable {l : List Nat} {es : List ay} {h2 key : Nat}
attribute [local go_sem] Oper.semAt_some
def EI (l:List Nat)(es:List ay)(key h2:Nat):Option Nat:=(bW 0 (l.map (kX h2))).find? fun i=>(es.getD i ⟨0,0,0⟩).key==key
theorem Ua {ys:List (Fin 8)}(hys:ys.map Fin.val=bW 0 ((l.map (kX h2)).map eB))(hp:∀x∈ys,((es.getD x.val ⟨0,0,0⟩).key==key)=false):EI l es key h2=none:=by
 unfold EI;rw[uS (Gi h2 l)]at hys;rw[←hys,List.find?_eq_none];intro x hx;obtain⟨y,hy,rfl⟩:=List.mem_map.1 hx;rw[hp y hy];simp
theorem Ub {pre:List (Fin 8)}{x:Fin 8}{r:List Nat}(hys:(pre++[x]).map Fin.val++r=bW 0 ((l.map (kX h2)).map eB))(hp:∀x∈pre,((es.getD x.val ⟨0,0,0⟩).key==key)=false)(hx:((es.getD x.val ⟨0,0,0⟩).key==key)=true):EI l es key h2=some x.val:=by
 unfold EI;rw[uS (Gi h2 l)]at hys
 rw[←hys,List.map_append,List.append_assoc,List.find?_append,List.find?_eq_none.2 (fun y hy=>by
  obtain⟨z,hz,rfl⟩:=List.mem_map.1 hy
  rw[hp z hz];simp)]
 show Option.or none (List.find? _ (x.val::r))=_;rw[List.find?_cons_of_pos (p:=fun i=>(es.getD i ⟨0,0,0⟩).key==key) hx];rfl
theorem xD {F:Fence}{n:Nat}{P:Program}{fn:Func}{R:Ending→World→Prop}{a:Act}{w:World}(h:LeavesInM F n P fn a.tmps R a.defers .returning w):abh (bodyPostM F n P fn R) .ret a w:=h
theorem Wo (gb:Nat)(t:TypeId)(pre post:List Value)(go:Nat)(l:List Nat)(es:List ay)(key hash:Nat)(h64:hash<18446744073709551616)(w:World)(h:bV w gb t pre post go l es)(hT:gF w):
  Calls Tryz.prog 140 #[bg ⟨gb,go,none⟩,.int .u64 (key:Int),.int .u64 (hash:Int)] w fun e w'=>e= .returned (.int .i64 (uj (EI l es key (hash % 128))))∧Below w.heap.size w w':=by
 obtain⟨W,hW,hB,hV,hK,hR⟩:=qX3 w 198 #[.pointer (some ⟨gb,go,none⟩)] 28 #[.int .u64 (key:Int)] 3 #[.int .i64 0];have hG:=h.below hB;have H2:=qd (NY hash h64);have tN:=qd (TD l h.l8 h.bytes (hash % 128) (by omega));have HW:=qd hW;have HB:=qd hB;have hg:=World.block_lt_of_cell? w _ (hT 0 (by omega));have Ot:=h.l8;unfold bg;clear hW h hB;refine(callsIn_wide (n:=10)).1 ?_
 have h1:1≤10:=by omega
 refine lu Tryz.func140 rfl trivial rfl ?_;simp only[Tryz.ntmps140,List.size_toArray,List.length_cons,List.length_nil,Nat.reduceAdd,Nat.reduceSub,Array.replicate_succ,Array.replicate_zero,List.push_toArray,List.append_toArray,List.nil_append,List.cons_append];refine wpIn_wide.2 ?_;go_upto_region 1 with fail;rw[←HW.out];have v0:=hV.cell 0;simp only[List.getElem?_toArray,List.getElem?_cons_zero]at v0;have hw:=hG.word;refine rT (fun(w':World)=>w'.cell? ⟨w.heap.size,0,none⟩=some (.pointer (some ⟨gb,go,none⟩))∧w'.cell? ⟨gb,go,none⟩=some (.int .u64 ((w8 l:Nat):Int))) [] ?_;have hHeld:=(⟨v0,hw⟩:_∧_);refine vW 0 rfl ?_;refine vT 1 rfl ?_;refine vW 2 rfl ?_;refine vW 3 rfl ?_;refine vT 4 rfl ?_;refine vW 5 rfl ?_;refine nT 6 rfl fun K hK=> ?_;go_simp;refine(H2.out _).mono ?_;rintro e w1 ⟨rfl,rfl⟩;go_wp2_with fail;have hHeld:=(⟨v0,hw⟩:_∧_);refine kO hK ?_;clear hK K;refine nT 7 rfl fun K hK=> ?_;go_simp;refine(tN.out _).mono ?_;rintro e w1 ⟨rfl,rfl⟩;go_wp2_with fail;have hHeld:=(⟨v0,hw⟩:_∧_);refine kO hK ?_;clear hK K;refine nT 8 rfl fun K hK=> ?_;go_simp;refine(IC (l.map (kX (hash % 128))) _).mono ?_;rintro e w1 ⟨rfl,hw1⟩;have hb1:Below W.heap.size W w1:=hw1▸((Below.refl W.heap.size W).drew).alloc (Nat.le_refl _) _;have hL1:aj w1 W.heap.size 28 #[.int .u64 ((w8 (l.map (kX (hash % 128))):Nat):Int)]:=hw1▸aj.new W.drew _ _;clear hw1;go_wp2_with fail;replace v0:=aA hb1 v0;replace hw:=aA hb1 hw;have hHeld:=(⟨v0,hw⟩:_∧_)
 refine kO hK ?_;clear hK K;refine aX (by kernel_rfl) ?_ _;go_wp2_with fail;refine(wpIn_wide (n:=10)).1 ?_;have hB1:Below w.heap.size w w1:=bP hb1 HB.out;have hlt3:w.heap.size+1+1<W.heap.size:=hR.lt;have hT1:gF w1:=fun i hi=>(hB1.cell (p:=⟨21,pJ i,none⟩) hg).trans (hT i hi);have hG1:=hG.below hb1;have hK1:=(hK.below hb1 hK.lt).cell 0;have xQ:=hR.below hb1 hR.lt;have hbl:=hB1.size;simp only[List.getElem?_toArray,List.getElem?_cons_zero]at hK1
 refine wpIn_rangeFunc_ownH rfl h1 (gf:=248) (lb:= #[.pointer (some ⟨W.heap.size,0,none⟩)]) rfl trivial (enters_of Tryz.func248 (by kernel_rfl) rfl)
  (Fy (10-1) (by omega) W.heap.size w1.heap.size [] (l.map (kX (hash % 128))) (by simpa using Ot) (Gi _ l).bytes w1 (by omega) (by simp) (Nat.le_refl _) hL1.lt (hL1.cell 0) hT1) dI (xC (Nat.le_refl _)) (Below.refl _ _) (fun _=>rfl)
  (fun pre V=>(∀x∈pre,((es.getD x.val ⟨0,0,0⟩).key==key)=false)∧Below w1.heap.size w1 V)
  (fun c pre V=>(c= .ret∧∃pre' x,pre=pre'++[x]∧(∀y∈pre',((es.getD y.val ⟨0,0,0⟩).key==key)=false)∧((es.getD x.val ⟨0,0,0⟩).key==key)=true∧Boxed V (w.heap.size+1+1) 3 (.int .i64 (x.val:Int)))∧Below w.heap.size w V)
  (OwnFrom.and (fun _ _ _ _ hs _ _=>hs) (ownFrom_below (Nat.le_refl _) (Nat.le_refl _)))
  (fun c=>OwnFrom.and (fun _ X Y row hs hg hr=>by
   obtain⟨h0,pre',x,h2,h3,h4,h5⟩:=hs
   exact⟨h0,pre',x,h2,h3,h4,boxed_own (w.heap.size+1+1) 3 (fun(_:Unit)=>Value.int .i64 (x.val:Int)) () X Y row h5 hg (fun r e=>(hr r e).2)⟩) (ownFrom_below (Nat.le_refl _) (by omega)))
  ⟨by simp,Below.refl _ _⟩
  (fun x a' _=>a'={tmps:= #[.agg #[.pointer (some ⟨gb,go,none⟩)],.int .u64 (key:Int),.int .u64 (hash:Int),.pointer (some ⟨w.heap.size,0,none⟩),.pointer (some ⟨w.heap.size+1,0,none⟩),undef,.pointer (some ⟨w.heap.size+1+1,0,none⟩),.int .i64 (x.val:Int),.pointer (some ⟨w.heap.size,0,none⟩),.pointer (some ⟨gb,go,none⟩),.pointer (some ⟨gb,go,none⟩),.pointer (some ⟨gb,go,none⟩),.int .u64 ((w8 l:Nat):Int),.int .u64 (hash:Int),.int .u8 ((hash:Int) % 128),.int .u64 ((w8 (List.map (kX (hash % 128)) l):Nat):Int),.func (.func 248) #[] #[.pointer (some ⟨W.heap.size,0,none⟩)],.int .i64 (x.val:Int),undef,undef,undef,undef,undef,undef,undef,undef,undef,undef,undef],defers:=[]})
  (fun _ _ _ _ _ _ hs _ _=>hs) ?assign ?body ?done ?stop
 case assign=>
  rintro lp pre x V K hi hK
  gi_wp2
  exact hK _ _ (KeepsFrom.refl _ _) (aT.refl _ _ _) hi rfl
 case body=>
  rintro lp pre x a' V hl ⟨r,hr⟩ ⟨hp,hV1⟩ rfl hlt;have KR:x.val<8:=x.isLt;have hv:=aA hV1 v0;have hk:=aA hV1 hK1;have s0:=(hG1.below hV1).at_ x.val 0 KR (by omega);rw[Nat.add_zero]at s0;simp only[aO,List.getElem?_cons_zero]at s0
  have hxi:(x.val:Int)<8:=by omega
  have hx0:(0:Int)≤(x.val:Int):=by omega
  have lC:=qd hp
  have HO:(((es.getD x.val ⟨0,0,0⟩).key:Int)==(key:Int))=((es.getD x.val ⟨0,0,0⟩).key==key):=by rw[Bool.eq_iff_iff,beq_iff_eq,beq_iff_eq];omega
  generalize hkx:(es.getD x.val ⟨0,0,0⟩).key=kx at*;have HKx:=qd hkx;clear hp hkx
  gi_wp2_with fail
  refine Bv (fun(w':World)=>w'.cell? ⟨w.heap.size,0,none⟩=some (.pointer (some ⟨gb,go,none⟩))∧w'.cell? ⟨w.heap.size+1,0,none⟩=some (.int .u64 (key:Int))∧w'.cell? ⟨gb,go+1+x.val*3,none⟩=some (.int .u64 (kx:Int))) [] (by kernel_rfl) (by kernel_rfl) (by rintro⟨_,_,h⟩;exact h) ?_
  try (change bN _ _ _ _ _ _ _ _ _ (World.drew _))
  have hHeld:=(⟨hv,hk,s0⟩:_∧_∧_);refine vW 0 rfl ?_;refine vT 1 rfl ?_;refine vW 2 rfl ?_;refine vW 3 rfl ?_;refine vW 4 rfl ?_;refine vW 5 rfl ?_;refine vW 6 rfl ?_;refine vT 7 rfl ?_;refine vT 8 rfl ?_;refine vW 9 rfl ?_;refine aX (by kernel_rfl) ?_ _
  cases hb:(kx==key)with
  |false=>
   rw[hb]at HO
   gi_wp2
   exact⟨(KeepsOthers.drew _).from _,aT.drew _ _ _,fun y hy=>(List.mem_append.1 hy).elim (lC.out y) (fun e=>by simp at e;subst e;rw[HKx.out];exact hb),hV1.drew⟩
  |true=>
   rw[hb]at HO;have cR:=(xQ.below hV1 xQ.lt).cell 0;have fR:=(xQ.below hV1 xQ.lt).frozen 0;simp only[List.getElem?_toArray,List.getElem?_cons_zero]at cR
   gi_wp2
   have hBx:Boxed V (w.heap.size+1+1) 3 (.int .i64 0):=xQ.below hV1 xQ.lt;exact⟨((KeepsOthers.drew V).trans (KeepsOthers.setCell V.drew ⟨w.heap.size+1+1,0,none⟩ (.int .i64 (x.val:Int)))).from _,⟨rfl,pre,x,rfl,lC.out,by rw[HKx.out];exact hb,(show Boxed V.drew (w.heap.size+1+1) 3 (.int .i64 0)from hBx).set _⟩,((hB1.trans (hV1.mono hB1.size)).drew).setCell (p:=⟨w.heap.size+1+1,0,none⟩) (by simp;omega) _⟩
 case done=>
  rintro D ys V hD hys ⟨hp,hV1⟩ rC;have cR:=(xQ.below hV1 xQ.lt).cell 0;have fR:=(xQ.below hV1 xQ.lt).frozen 0;simp only[List.getElem?_toArray,List.getElem?_cons_zero]at cR;have hBx:Boxed V (w.heap.size+1+1) 3 (.int .i64 0):=xQ.below hV1 xQ.lt;go_wp2;have hK':=(KeepsOthers.setCell V ⟨w.heap.size+1+1,0,none⟩ (.int .i64 (-1))).same D _ rC rfl;refine xD ⟨by simp,.inl ⟨_,_,rfl,run_takeDeferred hK', ?_⟩⟩;have hc5:=cell_kept (hBx.set (.int .i64 (-1))).cell (grownBy_putObj' _ D (.deferred none)) (fun r e=>by cases e;exact⟨_,hK',rfl⟩);refine⟨.int .i64 (-1), ?_,by rw[Ua hys hp];rfl,((hB1.trans (hV1.mono hB1.size)).setCell (p:=⟨w.heap.size+1+1,0,none⟩) (by simp;omega) _).trans (belowK_b (w:=w) (Nat.le_refl _) _ D _ _ (by omega) hK' rfl rfl)⟩;simp[results,Tryz.f140,go_sem,hc5]
 case stop=>
  rintro D c pre V hD ⟨r,hr⟩ ⟨⟨rfl,pre',x,he,hp,hx,bR1⟩,hV1⟩ rC
  gi_wp2
  refine xD ⟨by simp,.inl ⟨_,_,rfl,run_takeDeferred rC, ?_⟩⟩;have hc5:=cell_kept bR1.cell (grownBy_putObj' _ D (.deferred none)) (fun r e=>by cases e;exact⟨_,rC,rfl⟩);refine⟨.int .i64 (x.val:Int), ?_,by rw[Ub (by rw[he]at hr;exact hr) hp hx];rfl,hV1.trans (belowK_b (w:=w) (Nat.le_refl _) V D _ _ (by omega) rC rfl rfl)⟩;simp[results,Tryz.f140,go_sem,hc5]
end
end Go.Proofs.YtjfgpnapccdnlaaGreatDoor
