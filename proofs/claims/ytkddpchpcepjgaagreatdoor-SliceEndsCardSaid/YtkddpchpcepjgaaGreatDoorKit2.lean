/- A fresh group, a cleared one. -/
import Derived.Test.YtkddpchpcepjgaaGreatDoorCoI
import Derived.Deep.MidRow
import Derived.RangeFuncNested
import Derived.RangeFuncBound
import Derived.RangeFuncCalls
import Derived.RangeFuncLeaves
import Derived.RangeFuncBox
import Derived.Shelf.Abstract
import Derived.Shelf.RegionOpen
import Derived.OwnWalkIn
import Derived.TacticsInMore
import Derived.LoopNIn
import Derived.LoopIn
import Derived.OrdersIn
import Derived.ControlIn
namespace Go.Proofs.YtkddpchpcepjgaaGreatDoor
set_option maxRecDepth 100000
set_option maxHeartbeats 2000000
open Go.RowKit cu Go.Shelf Go
theorem Zs:type_of% @List.mem_append:=@List.mem_append
theorem ya:type_of% @List.nil_append:=@List.nil_append
theorem yb:type_of% @List.cons_append:=@List.cons_append
theorem ym:type_of% @List.take_of_length_le:=@List.take_of_length_le
theorem yv:type_of% @List.length_nil:=@List.length_nil
theorem yy:type_of% @List.append_nil:=@List.append_nil
theorem yz:type_of% @Nat.zero_add:=@Nat.zero_add
theorem jn:type_of% @List.map_append:=@List.map_append
theorem j0:type_of% @Array.replicate_succ:=@Array.replicate_succ
theorem j7:type_of% @Array.replicate_zero:=@Array.replicate_zero
theorem j9:type_of% @List.find?_eq_none:=@List.find?_eq_none
theorem JS:type_of% @List.append_toArray:=@List.append_toArray
theorem xn:type_of% @List.size_toArray:=@List.size_toArray
theorem xo:type_of% @List.push_toArray:=@List.push_toArray
theorem xr:type_of% @List.length_eq_zero_iff:=@List.length_eq_zero_iff
theorem XN:type_of% @run_underlying:=@run_underlying
theorem k9:type_of% @Oper.semAt_some:=@Oper.semAt_some
theorem vu:type_of% @callsIn_wide:=@callsIn_wide
theorem vx:type_of% @results_none:=@results_none
theorem vz:type_of% @Nat.min_eq_left:=@Nat.min_eq_left
theorem VC:type_of% @wpIn_wide:=@wpIn_wide
theorem OG {g:Nat}{t:TypeId}{post:List Value}:∀(vs x pre:List Value) (w:World),x.length=vs.length->aj w g t (pre++(x++post)).toArray->aj (w.setCells g pre.length vs) g t (pre++(vs++post)).toArray
 | [],x,pre,w,hl,h=>by
  have:x=[]:=xr.1 hl;subst this;exact h
 |v::vs,x,pre,w,hl,h=>by
  cases x with
  |nil=>simp at hl
  |cons y x=>
   have h1:=h.ak (pre.length+0) v;rw[set_mid _ _ _ _ _ (by simp)]at h1;have h2:=OG vs x (pre++[v]) _ (by simpa using hl) (by simpa using h1);simpa[World.setCells]using h2
theorem OH {g:Nat}{S:List Nat}(hg:g∈S){w0:World}:∀(vs:List Value) (o:Nat) (w:World),Mod S w0 w->Mod S w0 (w.setCells g o vs)
 | [],_,_,h=>h
 |v::vs,o,_,h=>OH hg vs (o+1) _ (h.ak (.inl hg) o v)
theorem dB.ex {w:World}{gb go:Nat}{t:TypeId}{pre post:List Value}{l:List Nat}{es:List ay}(h:dB w gb t pre post go l es)(j:Nat)(hj:j<25):∃v,w.cell? ⟨gb,go+j,none⟩=some v:=by
 have hl:j<(fZ l es).length:=by rw[fZ,ZS,iA,h.e8];exact hj
 rw[h.blk.cell,zr,Z1 (by have:=h.len;omega),Z2 (by have:=h.len;omega)]
 have:go+j-pre.length=j:=by have:=h.len;omega
 rw[this];exact⟨_,zg hl⟩
def kL:List Value:=[.int .u64 ((uY 128:Nat):Int),.int .u64 0,.int .u64 0,.int .u64 0,.int .u64 0,.int .u64 0,.int .u64 0,.int .u64 0,.int .u64 0,.int .u64 0,.int .u64 0,.int .u64 0,.int .u64 0,.int .u64 0,.int .u64 0,.int .u64 0,.int .u64 0,.int .u64 0,.int .u64 0,.int .u64 0,.int .u64 0,.int .u64 0,.int .u64 0,.int .u64 0,.int .u64 0]
theorem FZ:kL=fZ (List.replicate 8 128) (List.replicate 8 ⟨0,0,0⟩):=by simp[kL,fZ,uY,aU,List.replicate]
theorem WG (w:World):Calls Tryz.prog 154 #[] w λe w'=>e= .returned (pQ w.heap.size)/\w.alloc (.cells kL.toArray 215)=w':=by
 have H1:=qd (Zx w);go_in;go_wp2_with fail;refine(H1.o).mono ?_;rintro e w1 ⟨rfl,rfl⟩;go_wp2;go_ret;exact⟨rfl,rfl⟩
theorem Uw (gb:Nat)(t:TypeId)(pre post:List Value)(go:Nat)(l:List Nat)(es:List ay)(w:World)(h:dB w gb t pre post go l es):
  Calls Tryz.prog 118 #[bG ⟨gb,go,none⟩] w λx w'=>x= .returned undef/\dB w' gb t pre post go (List.replicate 8 128) (List.replicate 8 ⟨0,0,0⟩)/\Mod [gb] w w':=by
 have hB:=(Below.refl w.heap.size w).alloc (zb _) (.cells #[.pointer (some ⟨gb,go,none⟩)] 211);have hV:=aj.new w 211 #[.pointer (some ⟨gb,go,none⟩)];obtain⟨W,hW⟩:∃W,W=w.alloc (.cells #[.pointer (some ⟨gb,go,none⟩)] 211):=⟨_,rfl⟩;rw[<-hW]at hB hV;have hG:=h.below hB;have HW:=qd hW;have HB:=qd hB;unfold bG;clear hW h hB;go_in;go_upto_region 1 with fail;rw[<-HW.o];have v0:=hV.cell 0;simp only[zr,zc]at v0;refine rT (λ(w':World)=>w'.cell? ⟨w.heap.size,0,none⟩=some (.pointer (some ⟨gb,go,none⟩))) [6] ?_;have hHeld:=v0;refine vW 0 rfl ?_;refine vT 1 rfl ?_;refine nT 2 rfl λK hK=> ?_;go_simp;refine(WG _).mono ?_;rintro e w1 ⟨rfl,hN⟩;have hb1:Below W.heap.size W w1:=hN▸((Below.refl W.heap.size W).drew).alloc (zb _) _;have hN1:aj w1 W.heap.size 215 kL.toArray:=hN▸aj.new W.drew _ _;clear hN;go_wp2_with fail;replace v0:=aA hb1 v0
 have hL:w1.rangeAt W.heap.size 0 kL:=λj v hv=>by rw[hN1.cell,yz,zr];exact hv
 have hG1:=hG.below hb1;have hS:w1.there gb go kL.toArray.size:=λj hj=>⟨by obtain⟨v,hv⟩:=hG1.ex j hj;rw[hv];rfl,hG1.wB _⟩;have hHeld:=v0;refine kO hK ?_;clear hK K;refine nT 3 rfl λK hK=> ?_;go_simp;refine kO hK ?_;clear hK K;refine nT 4 rfl λK hK=> ?_;rw[if_pos (by rfl)];refine wp_load_mid 215 (.tmp 5) rfl W.heap.size 0 rfl kL _ hL Tryz.underlying215 rfl (by kernel_rfl) ?_;refine kO hK ?_;clear hK K;refine vW 5 rfl ?_;refine nT 6 rfl λK hK=> ?_;rw[if_pos (by rfl)];refine wp_store_mid 215 (.tmp 7) (.tmp 6) rfl gb go kL.toArray rfl rfl hS (by kernel_rfl) (by simp[kL];exact⟨rfl,rfl⟩) ?_;refine kO hK ?_;clear hK K;refine aV (by kernel_rfl) ?_ _;have hM2:Mod [gb] w (w1.setCells gb go kL):=OH (by simp) _ _ _ (Mod.of_below (bN hb1 HB.o) [gb])
 have hG2:dB (w1.setCells gb go kL) gb t pre post go (List.replicate 8 128) (List.replicate 8 ⟨0,0,0⟩):=
  ⟨hG.len,by simp,rQ (by omega),by simp,by have:=OG kL (fZ l es) pre w1 (by rw[fZ,ZS,iA,hG.e8];rfl) (hG.below hb1).blk;rw[hG.len,FZ]at this;rw[FZ];exact this⟩
 have HP:=qd (And.intro hG2 hM2);clear hG2 hM2;go_wp2;go_end0;exact⟨rfl,HP.o.1,HP.o.2⟩
section
variable {n n₀ : Nat} {S : List Nat} {A w w' : World} {P : Program}
attribute [local go_sem] k9
structure aZ (n₀:Nat)(S:List Nat)(A B:World):Prop where
 os:B.os=A.os
 tape:B.tape=A.tape
 output:B.output=A.output
 size:A.heap.size<=B.heap.size
 block:∀k,k<n₀->k∉S->B.heap[k]?=A.heap[k]?
theorem aZ.refl (n₀:Nat)(S:List Nat)(w:World):aZ n₀ S w w:=⟨rfl,rfl,rfl,zb _,λ_ _ _=>rfl⟩
theorem aZ.drew (n₀:Nat)(S:List Nat)(w:World):aZ n₀ S w w.drew:=⟨rfl,rfl,rfl,zb _,λ_ _ _=>rfl⟩
theorem dW {B C:World}(h:aZ n₀ S A B)(k:aZ n₀ S B C):aZ n₀ S A C:=
 ⟨k.os.trans h.os,k.tape.trans h.tape,k.output.trans h.output,qf h.size k.size,λi hi hs=>(k.block i hi hs).trans (h.block i hi hs)⟩
theorem Mod.xQ {B:World}(h:Mod S A B)(hn:n₀<=A.heap.size):aZ n₀ S A B:=
 ⟨h.os,h.tape,h.output,h.size,λk hk hs=>h.block k (yp hk hn) hs⟩
theorem aZ.of_below {B:World}(h:Below n₀ A B):aZ n₀ S A B:=⟨h.os,h.tape,h.output,h.size,λk hk _=>h.block k hk⟩
theorem aZ.ak (h:aZ n₀ S w w'){b:Nat}(hb:b∈S\/n₀<=b)(o:Nat)(u:Value):aZ n₀ S w (w'.setCell ⟨b,o,none⟩ u):=
 ⟨h.os,h.tape,h.output,by simpa using h.size,λk hk hn=>by
  have hne:k≠b:=by rintro rfl;rcases hb with hb|hb;exact hn hb;omega
  exact(Below.heap_setCell w' ⟨b,o,none⟩ u k hne).trans (h.block k hk hn)⟩
theorem yA (hn:n₀<=w.heap.size)(W:World)(l:Nat)(o o':Obj)(hl:w.heap.size<=l)(_:W.heap[l]?=some o)(_:o.isCells=false)(_:o.isWalk=false):aZ n₀ S W (W.putObj l o'):=
 ⟨rfl,rfl,rfl,by simp,λk hk _=>World.putObj_heap_other (by omega)⟩
theorem aZ.grown {a:World}{row:Option Nat}(h:aZ n₀ S a w)(hg:w.grownBy w' row)(hn:n₀<=w.heap.size)(hr:∀k,row=some k->n₀<=k):aZ n₀ S a w':=
 dW h ⟨hg.os,hg.tape,hg.output,hg.size,λk hk _=>hg.block k (by omega) (λe=>by have:=hr k e.symm;omega)⟩
theorem rz {β:Type}{B:Nat}{w₀:World}(hn:n₀<=w₀.heap.size)(hB:n₀<=B):OwnFrom B (λ(_:β) W=>aZ n₀ S w₀ W):=
 λ_ _ _ _ hs hg hr=>hs.grown hg (qf hn hs.size) (λk e=>qf hB (hr k e).1)
theorem aZ.cell {B:World}(h:aZ n₀ S A B){p:Addr}(hp:p.block<n₀)(hs:p.block∉S):B.cell? p=A.cell? p:=World.cell?_of_block (w:=A) (h.block p.block hp hs)
theorem aZ.mod {B:World}(h:aZ A.heap.size S A B):Mod S A B:=⟨h.os,h.tape,h.output,h.size,λk hk hs=>h.block k hk hs⟩
theorem aZ.tz {B:World}(h:aZ n₀ S A B)(hg:16 <n₀)(hs:16 ∉S)(hT:gW A):gW B:=λi hi=>(h.cell (p:=⟨16,qD i,none⟩) hg hs).trans (hT i hi)
theorem aZ.blk {B:World}{g:Nat}{t:TypeId}{cs:Array Value}(h:aZ n₀ S A B)(hb:aj A g t cs)(hg:g<n₀)(hs:g∉S):aj B g t cs:=(h.block g hg hs).trans hb
theorem vg {f:FuncId}{args:Array Value}{q:Nat}{R:Ending->World->Prop}(h:Calls P f args w R):CallsIn Fence.wide q P f args w R:=vu.2 h
abbrev Bb (x:Nat):Array Value:= #[nI x]
theorem WH (q:Nat)(hq:1<=q)(lp Bs:Nat)(l:List Nat)(hl:l.length=8)(hb:Bytes l)(Kp:World->World->Prop)(hT:∀A B,Kp A B->gW A->gW B)(J Jx:List Nat->World->Prop)(hY:∀pre x W,x<8->J pre W->pre.length<8->YieldAt Fence.wide (q-1) Tryz.prog lp (Bb x) W λe W'=>
   (e= .returned (.bool true)/\J (pre++[x]) W'/\Kp W W')\/(e= .returned (.bool false)/\Jx (pre++[x]) W')) (W:World) (hc:W.cell? ⟨Bs,0,none⟩=some (.int .u64 ((w8 l:Nat):Int))) (ni:gW W) (h0:J [] W):
  CallsIn Fence.wide q Tryz.prog 230 #[.func (.yield lp) #[] #[],pQ Bs] W λe W'=>(∃v,e= .returned v)/\
   ((∃ys,ys=dD 0 (l.map eZ)/\J ys W')\/(∃pre,(∃r,pre++r=dD 0 (l.map eZ))/\Jx pre W')):=by
 have HH:=qd (λV=>vg (q:=q-1) (wm l hl hb V));have HF:=qd (λ(m:List Nat) (hm:Marks m) (hml:m.length=8) (i:Nat) (hi:firstM m=some i) (V:World) (hV:gW V)=>vg (q:=q-1) (zB m hml hm.bytes i (by rw[wh hm];exact hi) V hV));obtain⟨L,hL⟩:∃L,L=dD 0 (l.map eZ):=⟨_,rfl⟩;have hm0:=rR l
 have hl0:(l.map eZ).length=8:=by simpa using hl
 have hL8:L.length<=8:=by rw[hL];have:=Dy (l.map eZ) 0;omega
 rw[<-hL];have HL:=qd hL;clear hL hl hb;refine callsIn_of_wp Tryz.func230 rfl trivial ?_ rfl;simp only[Tryz.ntmps230,xn,ZS,yv,Nat.reduceAdd,Nat.reduceSub,j0,j7,xo,JS,ya,yb]
 gi_wp2_with (refine⟨trivial, ?_⟩;gi_at_call 228;refine(HH.o _).mono ?_;rintro e w' ⟨rfl,rfl⟩)
 gi_loopw [3] (λv wr=>∃(m:List Nat) (pre:List Nat),Marks m/\m.length=8/\v= .int .u64 ((w8 m:Nat):Int)/\Hqq (pre++dD 0 m=L)/\J pre wr/\gW wr) (λv _=>(intOf v).toNat)
 case atStart=>exact⟨_,[],hm0,hl0,rfl,qd HL.o.symm,h0,ni⟩
 case round=>
  obtain⟨m,pre,hm,hml,rfl,HP,hJ,hTr⟩:=hrel;have WI:=qd hTr;clear hTr;by_cases hz:w8 m=0
  ·have hz':(((w8 m:Nat):Int) !=0)=false:=by rw[hz];rfl
   have hn:=(qC hm).1 hz;have hp:=HP.o;rw[IQ 0 hn,yy]at hp;have Ux:=qd hp;clear hz hn hp
   gi_wp2
   go_end0;exact⟨⟨_,rfl⟩,.inl ⟨_,Ux.o,hJ⟩⟩
  ·have hz':(((w8 m:Nat):Int) !=0)=true:=by rw[bne_iff_ne];omega
   obtain⟨i,hi⟩:=Ru hm hz;have hp:=HP.o;rw[IL 0 hi,yz]at hp
   have hlen:pre.length<8:=by have:=congrArg List.length hp;simp at this;omega
   have hdv:=Zv hm hml hz;have hdl:=Sv hm hz;have Ux:=qd hp;have HD:=qd hdv;have Lp:=qd (HF.o m hm hml i hi wr WI.o);have Hi:=qd hi;obtain⟨fn,tmps,assign,body,hy,xH⟩:=hY pre i wr (by have:=GR hi;omega) hJ hlen;simp only[Bb]at hy xH;clear hp hi hdv hz
   gi_wp2_with (refine⟨trivial, ?_⟩;gi_at_call 199;refine Lp.o.mono ?_;rintro e w' ⟨rfl,rfl⟩)
   refine xH.mono ?_;rintro e W3 (⟨rfl,hJ3,hk3⟩|⟨rfl,hJx3⟩)
   ·gi_wp2
    rw[HD.o];go_roundw
    case rel=>exact⟨nG m,pre++[i],IK hm,by rw[Dx];exact hml,rfl,qd (by rw[qe];exact Ux.o),hJ3,hT _ _ hk3 WI.o⟩
    case measure=>simp[intOf];omega
   ·gi_wp2
    refine bodyPost_ret (vx rfl _ _ _) rfl ?_;exact⟨⟨_,rfl⟩,.inr ⟨_,⟨dD 0 (nG m),by rw[qe];exact Ux.o⟩,hJx3⟩⟩
theorem Jb (l:List Nat)(w:World):Calls Tryz.prog 201 #[.int .u64 ((w8 l:Nat):Int)] w λe w'=>e= .returned (.func (.func 230) #[] #[pQ w.heap.size])/\w.alloc (.cells #[.int .u64 ((w8 l:Nat):Int)] 37)=w':=by
 go_in;go_wp2;go_ret;exact⟨rfl,rfl⟩
theorem acY (hn:Pw n){a:Nat}(ha:a<128):bits .and .i64 (a:Int) ((n:Int)-1)=((a % n:Nat):Int):=by
 have H:∀n∈([1,2,4,8,16,32,64]:List Nat),∀a:Fin 128,bits .and .i64 (a.val:Int) ((n:Int)-1)=((a.val % n:Nat):Int):=by decide+kernel
 have hm:n∈([1,2,4,8,16,32,64]:List Nat):=by unfold Pw at hn;simp;omega
 exact H n hm ⟨a,ha⟩
def DN (h n j:Nat):Nat:=(h+(IX j-j)) % n
theorem OI (j:Nat):IX (j+1)=IX j+(j+1):=by
 unfold IX
 have:(j+1)*(j+1+1)=j*(j+1)+2*(j+1):=by rw[Nat.mul_add (j+1) (j+1) 1,Nat.add_mul,vr j (j+1)];omega
 rw[this];omega
theorem adW (j:Nat):j<=IX j:=by
 cases j with
 |zero=>exact Q4 _
 |succ j=>rw[OI];omega
theorem ZO (h n j:Nat):(DN h n j+j) % n=dx h n j:=by
 unfold DN dx;rw[Nat.mod_add_mod];have:=adW j;congr 1;omega
theorem ZP (h n j:Nat):DN h n (j+1)=dx h n j:=by
 unfold DN dx;rw[OI,Nat.add_sub_cancel]
theorem ZQ (h n:Nat):DN h n 0=h % n:=by simp[DN,IX]
theorem DR (h n j:Nat)(hj:j<=n):(walk h n).take j=(List.range j).map (dx h n):=by
 unfold walk;rw[<-List.map_take,List.take_range,vz hj]
theorem ZR (q:Nat)(hq:1<=q)(lp Bg Bh:Nat)(h n:Nat)(h64:h<18446744073709551616)(hn:Pw n)(Kp:World->World->Prop)(hKr:∀W,Kp W W)(hKt:∀{A B C:World},Kp A B->Kp B C->Kp A C)(hKc:∀(W W':World) (v:Value),Kp W W'->W.cell? ⟨Bg,0,none⟩=some v->W'.cell? ⟨Bg,0,none⟩=some v)(J Jx:List Nat->World->Prop)(hY:∀pre x W,x<n->J pre W->pre.length<64->YieldAt Fence.wide (q-1) Tryz.prog lp (Bb x) W λe W'=>
   (e= .returned (.bool true)/\J (pre++[x]) W'/\Kp W W')\/(e= .returned (.bool false)/\Jx (pre++[x]) W')) (W:World) (hcg:W.cell? ⟨Bg,0,none⟩=some (nI n)) (hch:W.cell? ⟨Bh,0,none⟩=some (nU h)) (h0:J [] W):
  CallsIn Fence.wide q Tryz.prog 197 #[.func (.yield lp) #[] #[],pQ Bg,pQ Bh] W λe W'=>(∃v,e= .returned v)/\
   ((∃ys,ys=walk h n/\J ys W')\/(∃pre,(∃j,j<=n/\pre=(walk h n).take j)/\Jx pre W')):=by
 have HR:=qd (λV=>vg (q:=q-1) (Rw n hn V));have HH:=qd (λV=>vg (q:=q-1) (Uq h n h64 hn V));have HA:=qd (λ(a:Nat) (ha:a<128)=>acY hn ha)
 have hn1:(1:Int)<=(n:Int):=by have:=hn.pos;omega
 have hn2:(n:Int)<=64:=by have:=hn.le;omega
 have hpos:=hn.pos;have HN:=qd hn;clear hn;refine callsIn_of_wp Tryz.func197 rfl trivial ?_ rfl;simp only[Tryz.ntmps197,xn,ZS,yv,Nat.reduceAdd,Nat.reduceSub,j0,j7,xo,JS,ya,yb]
 gi_wp2_with (first
  |(refine⟨trivial, ?_⟩;gi_at_call 152;refine(HR.o _).mono ?_;rintro e w' ⟨rfl,rfl⟩)
  |(refine⟨trivial, ?_⟩;gi_at_call 198;refine(HH.o _).mono ?_;rintro e w' ⟨rfl,rfl⟩))
 gi_loopw [4,5,13] (λa _ i wr=>∃j:Nat,j<=n/\i=nI j/\a= .int .i64 ((DN h n j:Nat):Int)/\J ((walk h n).take j) wr/\Kp W wr) (λ_ _ i _=>n-(intOf i).toNat)
 case atStart=>exact⟨0,Q4 _,rfl,congrArg (Value.int .i64) (by rw[ZQ];omega),h0,hKr _⟩
 case round=>
  obtain⟨j,hj,rfl,rfl,hJ,hK⟩:=hrel;by_cases hlt:j<n
  ·have hlt':(j:Int)<(n:Int):=by omega
   have ahw:=hKc _ _ _ hK hcg;have ha0:DN h n j<n:=kA _ hpos;have hv:=HA.o (DN h n j+j) (by have:=HN.o.le;omega);rw[ZO]at hv
   have hv2:bits .and .i64 (((DN h n j:Nat):Int)+(j:Int)) ((n:Int)-1)=((dx h n j:Nat):Int):=by rw[<-hv];congr 1
   have hnx:=ZP h n j
   have htk:(walk h n).take (j+1)=(walk h n).take j++[dx h n j]:=by
    rw[DR _ _ _ hlt,DR _ _ _ hj,List.range_succ,jn];rfl
   have hlen:((walk h n).take j).length<64:=by rw[DR _ _ _ hj];simp;have:=HN.o.le;omega
   obtain⟨fn,tmps,assign,body,hy,xH⟩:=hY _ (dx h n j) wr (kA _ hpos) hJ hlen;simp only[Bb]at hy xH;generalize dx h n j=x at*;generalize DN h n j=b at*;have HT:=qd htk;have HX:=qd hnx
   have hb0:(0:Int)<=(b:Int):=by omega
   have hb1:(b:Int)<64:=by omega
   clear hv htk hnx
   gi_wp2
   refine xH.mono ?_;rintro e W3 (⟨rfl,hJ3,hk3⟩|⟨rfl,hJx3⟩)
   ·gi_wp2
    go_roundw
    case rel=>exact⟨j+1,by omega,by go_num,by rw[HX.o],by rw[HT.o];exact hJ3,hKt hK hk3⟩
    case measure=>simp[intOf];omega
   ·gi_wp2
    refine bodyPost_ret (vx rfl _ _ _) rfl ?_;exact⟨⟨_,rfl⟩,.inr ⟨_,⟨j+1,by omega,HT.o.symm⟩,hJx3⟩⟩
  ·obtain rfl:j=n:=by omega
   have hlt':¬(j:Int)<(j:Int):=by omega
   have hw:(walk h j).take j=walk h j:=ym (by simp[walk]);rw[hw]at hJ;clear hw
   gi_wp2
   go_end0
   first|exact⟨⟨_,rfl⟩,.inl ⟨_,rfl,hJ⟩⟩|exact⟨⟨_,rfl⟩,.inl hJ⟩
theorem Uy (h n:Nat)(w:World):Calls Tryz.prog 155 #[nU h,nI n] w λe w'=>e= .returned (.func (.func 197) #[] #[.pointer (some ⟨w.heap.size+1,0,none⟩),pQ w.heap.size])/\(w.alloc (.cells #[nU h] 37)).alloc (.cells #[nI n] 3)=w':=by
 go_in;go_wp2;go_ret;exact⟨rfl,rfl⟩
abbrev OJ {n:Nat}(x:Fin n):Array Value:=Bb x.val
def Ca {n:Nat}(J:List (Fin n)->World->Prop)(pre:List Nat)(W:World):Prop:=∃p:List (Fin n),p.map Fin.val=pre/\J p W
theorem F5 {N:Nat}{F:Fence}{m l:Nat}{J Jx:List (Fin n)->World->Prop}{Kp:World->World->Prop}(hY:∀pre x W1,J pre W1->pre.length<N->YieldAt F m P l (OJ x) W1 λe W'=>(e= .returned (.bool true)/\J (pre++[x]) W'/\Kp W1 W')\/(e= .returned (.bool false)/\Jx (pre++[x]) W')):
  ∀pre x W1,x<n->Ca J pre W1->pre.length<N->YieldAt F m P l (Bb x) W1 λe W'=>(e= .returned (.bool true)/\Ca J (pre++[x]) W'/\Kp W1 W')\/(e= .returned (.bool false)/\Ca Jx (pre++[x]) W'):=by
 rintro pre x W1 hx ⟨p,rfl,hJ⟩ hlen;obtain⟨fn,tmps,assign,body,hy,xH⟩:=hY p ⟨x,hx⟩ W1 hJ (by simpa using hlen);refine⟨fn,tmps,assign,body,hy,xH.mono λe W' he=> ?_⟩;rcases he with⟨h1,h2,h3⟩|⟨h1,h2⟩
 ·exact .inl ⟨h1,⟨_,by simp,h2⟩,h3⟩
 ·exact .inr ⟨h1,⟨_,by simp,h2⟩⟩
theorem F7 (q:Nat)(hq:1<=q)(Bs n₀:Nat)(S:List Nat)(l:List Nat)(hl:l.length=8)(hb:Bytes l)(w:World)(hg:16 <n₀)(hs:16 ∉S)(hn₀:n₀<=w.heap.size)(Sy:Bs<w.heap.size)(hc:w.cell? ⟨Bs,0,none⟩=some (.int .u64 ((w8 l:Nat):Int)))(hT:gW w):
  SeqStopsK (α:=Fin 8) Fence.wide q Tryz.prog 230 #[pQ Bs] OJ (aZ n₀ S) (λys=>ys.map Fin.val=dD 0 (l.map eZ)) (λpre=>∃r,pre.map Fin.val++r=dD 0 (l.map eZ)) 8 w:=λlp J Jx W hW _ _ hY h0=>
 (WH q hq lp Bs l hl hb (aZ n₀ S) (λ_ _ h=>h.tz hg hs) (Ca J) (Ca Jx) (F5 hY) W ((hW.cell (p:=⟨Bs,0,none⟩) Sy).trans hc) (λi hi=>(hW.cell (p:=⟨16,qD i,none⟩) (yp hg hn₀)).trans (hT i hi)) ⟨[],rfl,h0⟩).mono λe W' he=>by
  obtain⟨hv,⟨ys,hys,p,hp,hJ⟩|⟨pre,⟨r,hr⟩,p,hp,hJ⟩⟩:=he
  ·exact⟨hv,.inl ⟨p,hp.trans hys,hJ⟩⟩
  ·exact⟨hv,.inr ⟨p,⟨r,by rw[hp];exact hr⟩,hJ⟩⟩
theorem Uz (q:Nat)(hq:1<=q)(Bg Bh n₀:Nat)(S:List Nat)(h n:Nat)(h64:h<18446744073709551616)(hn:Pw n)(w:World)(hBg:Bg<n₀)(hgs:Bg∉S)(yI:Bh<w.heap.size)(hn₀:n₀<=w.heap.size)(hcg:w.cell? ⟨Bg,0,none⟩=some (nI n))(hch:w.cell? ⟨Bh,0,none⟩=some (nU h)):
  SeqStopsK (α:=Fin n) Fence.wide q Tryz.prog 197 #[pQ Bg,pQ Bh] OJ (aZ n₀ S) (λys=>ys.map Fin.val=walk h n) (λpre=>∃j,j<=n/\pre.map Fin.val=(walk h n).take j) 64 w:=λlp J Jx W hW _ _ hY h0=>
 (ZR q hq lp Bg Bh h n h64 hn (aZ n₀ S) (aZ.refl _ _) dW (λ_ _ _ hk hc=>(hk.cell (p:=⟨Bg,0,none⟩) hBg hgs).trans hc) (Ca J) (Ca Jx) (F5 hY) W ((hW.cell (p:=⟨Bg,0,none⟩) (yp hBg hn₀)).trans hcg) ((hW.cell (p:=⟨Bh,0,none⟩) yI).trans hch) ⟨[],rfl,h0⟩).mono λe W' he=>by
  obtain⟨hv,⟨ys,hys,p,hp,hJ⟩|⟨pre,⟨j,hj,hr⟩,p,hp,hJ⟩⟩:=he
  ·exact⟨hv,.inl ⟨p,hp.trans hys,hJ⟩⟩
  ·exact⟨hv,.inr ⟨p,⟨j,hj,hp.trans hr⟩,hJ⟩⟩
end
section
variable {i l n : Nat} {a : Act} {w : World} {F : Fence} {c : Code}
section
variable {P : Program} {ops : Array Oper} {Q : Exit -> Act -> World -> Prop} {md : Region.Mode} {S : World -> Prop} {late : List Nat}
def Fp (ops:Array Oper):Bool:=ops.all λo=>match o.op with
 | .defer _=>false
 |_=>true
theorem OL (h:Fp ops=true)(i:Nat)(o:Oper)(hi:ops[i]?=some o)(c:Call):o.op≠ .defer c:=λhe=>by
 obtain⟨hlt,rfl⟩:=qi.1 hi;have:=Array.all_eq_true.1 h i hlt;rw[he]at this;cases this
theorem WJ {K K':Act->World->Prop}(hnd:Fp ops=true)(hQ:¬LetsOut Q)(hK:∀a w,K a w->K' a w)(h:wpOp P ops Q i K a w):wpOpIn (Fence.wide.inRound l) n P ops Q i K' a w:=by
 unfold wpOp at h;unfold wpOpIn
 cases hi:ops[i]? with
 |none=>rw[hi]at h;exact hK _ _ h
 |some o=>
  rw[hi]at h;dsimp only at h|-;split
  ·next hw=>
   rw[if_pos hw]at h;rcases h with h|⟨_,hl⟩
   ·refine⟨λ_ _=>trivial, ?_⟩;rw[Oper.semAt_eq _ _ _ (OL hnd i o hi)];unfold Oper.wp at h;generalize(execOp a.eval o).run P w=r at*
    cases r with
    |ok x w'=>
     cases x<;>simp only[Oper.upon,Oper.uponIn]at h|-
     case value u=>exact hK _ _ h
     case skip=>exact hK _ _ h
     case defer d=>exact hK _ _ h
     case enter f args=>
      refine⟨λhd=>by simp[Fence.wide]at hd,CallsIn.inRound l ((vu.2 h).mono λe w'' he=> ?_)⟩
      cases e with
      |returned u=>exact hK _ _ he
      |panicked c=>exact he
      |outgrown=>exact he
     case row row args=>
      refine⟨λhd=>by simp[Fence.wide]at hd,λc cs _=> ?_⟩;obtain⟨v,w1,h1,h2⟩:=h c cs;exact⟨v,w1,hK _ _ h1,stepsIn_wide.2 h2⟩
    |halt x w'=>cases x<;>simp only[Oper.upon,Oper.uponIn]at h|-<;>exact h
   ·exact absurd hl hQ
  ·next hw=>
   rw[if_neg hw]at h;exact⟨λ_ _=>trivial,hK _ _ h⟩
theorem Jc (hnd:Fp ops=true)(hQ:¬LetsOut Q):∀(f:Nat) (listed:Array Bool) (a:Act) (w:World),wpAny P md ops Q f listed a w->wpAnyIn (Fence.wide.inRound l) n P md ops Q f listed a w
 |0,_,_,_,h=>h
 |f+1,_,_,_,h=>⟨h.1,λi hi=>WJ hnd hQ (λa' w' h'=>Jc hnd hQ f _ a' w' h') (h.2 i hi)⟩
theorem Cb {id:Nat}(S:World->Prop)(late:List Nat)(hm:P.follows .mixedOrders=true)(hnd:Fp ops=true)(hQ:¬LetsOut Q)(h:cO P .any ops Q S late ops.size (Array.replicate ops.size false) a {w with drawn:=w.drawn+1}):(Code.region id ops true).wpIn (Fence.wide.inRound l) n P Q a w:=
 wpIn_region_any hm (Jc hnd hQ _ _ _ _ (BZ _ _ _ _ h))
theorem pairT {j:Nat}{o o':Oper}{f:Nat}{listed:Array Bool}(hi:ops[i]?=some o)(hj:ops[j]?=some o')(hr:Region.ready md ops listed=[i,j])(h1:∀K:Act->World->Prop,Hqq (∀a' w',(i∉late->S w')->cO P md ops Q S late f (listed.setIfInBounds i true) a' w'->K a' w')->if Region.wanted o (yielded ops a.tmps)=true then o.wp P a w K Q else K (a.put o.dst undef) w)(h2:∀K:Act->World->Prop,Hqq (∀a' w',(j∉late->S w')->cO P md ops Q S late f (listed.setIfInBounds j true) a' w'->K a' w')->if Region.wanted o' (yielded ops a.tmps)=true then o'.wp P a w K Q else K (a.put o'.dst undef) w):cO P md ops Q S late (f+1) listed a w:=by
 have one:∀(k:Nat) (x:Oper),ops[k]?=some x->k∈Region.ready md ops listed->
   (∀K:Act->World->Prop,Hqq (∀a' w',(k∉late->S w')->cO P md ops Q S late f (listed.setIfInBounds k true) a' w'->K a' w')->if Region.wanted x (yielded ops a.tmps)=true then x.wp P a w K Q else K (a.put x.dst undef) w)->
   wpOp P ops Q k (λa' w'=>(Early late (listed.setIfInBounds k true)->S w')/\cO P md ops Q S late f (listed.setIfInBounds k true) a' w') a w:=by
  intro k x hk hkr h;have hun:listed.getD k true=false:=(mem_ready.1 hkr).1;unfold wpOp;simp only[hk]
  have:=h (λa' w'=>(Early late (listed.setIfInBounds k true)->S w')/\cO P md ops Q S late f (listed.setIfInBounds k true) a' w') (qd λa' w' h1 h2=>⟨λhE=>by
   by_cases hkn:k∈late
   ·have h3:=hE k hkn
    have hlt:k<listed.size:=by
     rcases Kd k listed.size with h'|h'
     ·exact h'
     ·simp[X2 h']at hun
    simp[hlt]at h3
   ·exact h1 hkn,h2⟩)
  split
  ·next hw=>rw[if_pos hw]at this;exact .inl this
  ·next hw=>rw[if_neg hw]at this;exact this
 refine⟨(λh0=>by rw[hr]at h0;cases h0),λk hk=> ?_⟩;have hk':=hk;rw[hr]at hk;rcases zt.1 hk with rfl|hk
 ·exact one _ o hi hk' h1
 ·obtain rfl:k=j:=by simpa using hk
  exact one _ o' hj hk' h2
def adX (R:Act->World->Prop)(Q:Exit->Act->World->Prop):Exit->Act->World->Prop
 | .normal,a,w=>R a w
 |e,a,w=>Q e a w
theorem af0 (R:Act->World->Prop)(h:c.wpIn F n P (adX R Q) a w)(hR:∀a w,R a w->Q .normal a w):c.wpIn F n P Q a w:=
 wpIn_mono h λe a w hq=>by cases e<;>first|exact hR _ _ hq|exact hq
def ab9 (Q:Exit->Act->World->Prop):Exit->Act->World->Prop
 | .panic _,_,_=>False
 |e,a,w=>Q e a w
theorem mD {f:FuncId}{fn:Func}{args:Array Value}{R:Ending->World->Prop}(hf:P.funcs[f]?=some fn)(hb:fn.body=some c)(hF:F.fn f)(hro:F.round=none)(h:c.wpIn F n P (ab9 (bodyPostM F n P fn R)) {tmps:=args++Array.replicate (fn.ntmps-args.size) undef,defers:=[]} w):CallsIn F n P f args w R:=
 callsIn_of_wp_marks hf hb hF (wpIn_mono h λe _ _ hq=>by cases e<;>first|exact hq|exact hq.elim) hro
end
end
section
variable {l : List Nat} {es : List ay} {h2 key : Nat}
attribute [local go_sem] k9
def Fq (l:List Nat)(es:List ay)(key h2:Nat):Option Nat:=(dD 0 (l.map (l9 h2))).find? λi=>(es.getD i ⟨0,0,0⟩).key==key
theorem UA {ys:List (Fin 8)}(hys:ys.map Fin.val=dD 0 ((l.map (l9 h2)).map eZ))(hp:∀x∈ys,((es.getD x.val ⟨0,0,0⟩).key==key)=false):Fq l es key h2=none:=by
 unfold Fq;rw[wh (GQ h2 l)]at hys;rw[<-hys,j9];intro x hx;obtain⟨y,hy,rfl⟩:=Z3.1 hx;rw[hp y hy];simp
theorem UC {pre:List (Fin 8)}{x:Fin 8}{r:List Nat}(hys:(pre++[x]).map Fin.val++r=dD 0 ((l.map (l9 h2)).map eZ))(hp:∀x∈pre,((es.getD x.val ⟨0,0,0⟩).key==key)=false)(hx:((es.getD x.val ⟨0,0,0⟩).key==key)=true):Fq l es key h2=some x.val:=by
 unfold Fq;rw[wh (GQ h2 l)]at hys
 rw[<-hys,jn,qe,List.find?_append,j9.2 (λy hy=>by
  obtain⟨z,hz,rfl⟩:=Z3.1 hy
  rw[hp z hz];simp)]
 show Option.or none (List.find? _ (x.val::r))=_;rw[List.find?_cons_of_pos (p:=λi=>(es.getD i ⟨0,0,0⟩).key==key) hx];rfl
theorem yB {F:Fence}{n:Nat}{P:Program}{fn:Func}{R:Ending->World->Prop}{a:Act}{w:World}(h:LeavesInM F n P fn a.tmps R a.defers .returning w):ab9 (bodyPostM F n P fn R) .ret a w:=h
theorem WK (gb:Nat)(t:TypeId)(pre post:List Value)(go:Nat)(l:List Nat)(es:List ay)(key hash:Nat)(h64:hash<18446744073709551616)(w:World)(h:dB w gb t pre post go l es)(hT:gW w):
  Calls Tryz.prog 158 #[bG ⟨gb,go,none⟩,nU key,nU hash] w λe w'=>e= .returned (.int .i64 (uZ (Fq l es key (hash % 128))))/\Below w.heap.size w w':=by
 obtain⟨W,hW,hB,hV,hK,hR⟩:=qX3 w 211 #[.pointer (some ⟨gb,go,none⟩)] 37 #[nU key] 3 #[.int .i64 0];have hG:=h.below hB;have H2:=qd (Ow hash h64);have ow:=qd (Ui l h.l8 h.bytes (hash % 128) (by omega));have HW:=qd hW;have HB:=qd hB;have hg:=qt w _ (hT 0 (by omega));have OM:=h.l8;unfold bG;clear hW h hB;refine(vu (n:=10)).1 ?_
 have h1:1<=10:=by omega
 refine mD Tryz.func158 rfl trivial rfl ?_;simp only[Tryz.ntmps158,xn,ZS,yv,Nat.reduceAdd,Nat.reduceSub,j0,j7,xo,JS,ya,yb];refine VC.2 ?_;go_upto_region 1 with fail;rw[<-HW.o];have v0:=hV.cell 0;simp only[zr,zc]at v0;have hw:=hG.word;refine rT (λ(w':World)=>w'.cell? ⟨w.heap.size,0,none⟩=some (.pointer (some ⟨gb,go,none⟩))/\w'.cell? ⟨gb,go,none⟩=some (.int .u64 ((w8 l:Nat):Int))) [] ?_;have hHeld:=(⟨v0,hw⟩:_/\_);refine vW 0 rfl ?_;refine vT 1 rfl ?_;refine vW 2 rfl ?_;refine vW 3 rfl ?_;refine vT 4 rfl ?_;refine vW 5 rfl ?_;refine nT 6 rfl λK hK=> ?_;go_simp;refine(H2.o _).mono ?_;rintro e w1 ⟨rfl,rfl⟩;go_wp2_with fail;have hHeld:=(⟨v0,hw⟩:_/\_);refine kO hK ?_;clear hK K;refine nT 7 rfl λK hK=> ?_;go_simp;refine(ow.o _).mono ?_;rintro e w1 ⟨rfl,rfl⟩;go_wp2_with fail;have hHeld:=(⟨v0,hw⟩:_/\_);refine kO hK ?_;clear hK K;refine nT 8 rfl λK hK=> ?_;go_simp;refine(Jb (l.map (l9 (hash % 128))) _).mono ?_;rintro e w1 ⟨rfl,hw1⟩;have hb1:Below W.heap.size W w1:=hw1▸((Below.refl W.heap.size W).drew).alloc (zb _) _;have hL1:aj w1 W.heap.size 37 #[.int .u64 ((w8 (l.map (l9 (hash % 128))):Nat):Int)]:=hw1▸aj.new W.drew _ _;clear hw1;go_wp2_with fail;replace v0:=aA hb1 v0;replace hw:=aA hb1 hw;have hHeld:=(⟨v0,hw⟩:_/\_)
 refine kO hK ?_;clear hK K;refine aV (by kernel_rfl) ?_ _;go_wp2_with fail;refine(VC (n:=10)).1 ?_;have hB1:Below w.heap.size w w1:=bN hb1 HB.o;have hlt3:w.heap.size+1+1<W.heap.size:=hR.lt;have hT1:gW w1:=λi hi=>(hB1.cell (p:=⟨16,qD i,none⟩) hg).trans (hT i hi);have hG1:=hG.below hb1;have hK1:=(hK.below hb1 hK.lt).cell 0;have uL:=hR.below hb1 hR.lt;have hbl:=hB1.size;simp only[zr,zc]at hK1
 refine wpIn_rangeFunc_ownH rfl h1 (gf:=230) (lb:= #[pQ W.heap.size]) rfl trivial (enters_of Tryz.func230 (by kernel_rfl) rfl)
  (F7 (10-1) (by omega) W.heap.size w1.heap.size [] (l.map (l9 (hash % 128))) (by simpa using OM) (GQ _ l).bytes w1 (by omega) (by simp) (zb _) hL1.lt (hL1.cell 0) hT1) dW (yA (zb _)) (Below.refl _ _) (λ_=>rfl)
  (λpre V=>(∀x∈pre,((es.getD x.val ⟨0,0,0⟩).key==key)=false)/\Below w1.heap.size w1 V)
  (λc pre V=>(c= .ret/\∃pre' x,pre=pre'++[x]/\(∀y∈pre',((es.getD y.val ⟨0,0,0⟩).key==key)=false)/\((es.getD x.val ⟨0,0,0⟩).key==key)=true/\Boxed V (w.heap.size+1+1) 3 (nI x.val))/\Below w.heap.size w V)
  (OwnFrom.and (λ_ _ _ _ hs _ _=>hs) (ownFrom_below (zb _) (zb _)))
  (λc=>OwnFrom.and (λ_ X Y row hs hg hr=>by
   obtain⟨h0,pre',x,h2,h3,h4,h5⟩:=hs
   exact⟨h0,pre',x,h2,h3,h4,boxed_own (w.heap.size+1+1) 3 (λ(_:Unit)=>Value.int .i64 (x.val:Int)) () X Y row h5 hg (λr e=>(hr r e).2)⟩) (ownFrom_below (zb _) (by omega)))
  ⟨by simp,Below.refl _ _⟩
  (λx a' _=>a'={tmps:= #[.agg #[.pointer (some ⟨gb,go,none⟩)],nU key,nU hash,pQ w.heap.size,.pointer (some ⟨w.heap.size+1,0,none⟩),undef,.pointer (some ⟨w.heap.size+1+1,0,none⟩),nI x.val,pQ w.heap.size,.pointer (some ⟨gb,go,none⟩),.pointer (some ⟨gb,go,none⟩),.pointer (some ⟨gb,go,none⟩),.int .u64 ((w8 l:Nat):Int),nU hash,.int .u8 ((hash:Int) % 128),.int .u64 ((w8 (List.map (l9 (hash % 128)) l):Nat):Int),.func (.func 230) #[] #[pQ W.heap.size],nI x.val,undef,undef,undef,undef,undef,undef,undef,undef,undef,undef,undef],defers:=[]})
  (λ_ _ _ _ _ _ hs _ _=>hs) ?assign ?body ?done ?stop
 case assign=>
  rintro lp pre x V K hi hK
  gi_wp2
  exact hK _ _ (KeepsFrom.refl _ _) (aZ.refl _ _ _) hi rfl
 case body=>
  rintro lp pre x a' V hl ⟨r,hr⟩ ⟨hp,hV1⟩ rfl hlt;have Lr:x.val<8:=x.isLt;have hv:=aA hV1 v0;have hk:=aA hV1 hK1;have s0:=(hG1.below hV1).at_ x.val 0 Lr (by omega);rw[ky]at s0;simp only[aU,zc]at s0
  have hxi:(x.val:Int)<8:=by omega
  have hx0:(0:Int)<=(x.val:Int):=by omega
  have rX:=qd hp
  have HO:(((es.getD x.val ⟨0,0,0⟩).key:Int)==(key:Int))=((es.getD x.val ⟨0,0,0⟩).key==key):=by rw[xy,x7,x7];omega
  generalize hkx:(es.getD x.val ⟨0,0,0⟩).key=kx at*;have HKx:=qd hkx;clear hp hkx
  gi_wp2_with fail
  refine Cb (λ(w':World)=>w'.cell? ⟨w.heap.size,0,none⟩=some (.pointer (some ⟨gb,go,none⟩))/\w'.cell? ⟨w.heap.size+1,0,none⟩=some (nU key)/\w'.cell? ⟨gb,go+1+x.val*3,none⟩=some (nU kx)) [] (by kernel_rfl) (by kernel_rfl) (by rintro⟨_,_,h⟩;exact h) ?_
  try (change cO _ _ _ _ _ _ _ _ _ (World.drew _))
  have hHeld:=(⟨hv,hk,s0⟩:_/\_/\_);refine vW 0 rfl ?_;refine vT 1 rfl ?_;refine vW 2 rfl ?_;refine vW 3 rfl ?_;refine vW 4 rfl ?_;refine vW 5 rfl ?_;refine vW 6 rfl ?_;refine vT 7 rfl ?_;refine vT 8 rfl ?_;refine vW 9 rfl ?_;refine aV (by kernel_rfl) ?_ _
  cases hb:(kx==key)with
  |false=>
   rw[hb]at HO
   gi_wp2
   exact⟨(KeepsOthers.drew _).from _,aZ.drew _ _ _,λy hy=>(Zs.1 hy).elim (rX.o y) (λe=>by simp at e;subst e;rw[HKx.o];exact hb),hV1.drew⟩
  |true=>
   rw[hb]at HO;have cR:=(uL.below hV1 uL.lt).cell 0;have fR:=(uL.below hV1 uL.lt).frozen 0;simp only[zr,zc]at cR
   gi_wp2
   have hBx:Boxed V (w.heap.size+1+1) 3 (.int .i64 0):=uL.below hV1 uL.lt;exact⟨((KeepsOthers.drew V).trans (KeepsOthers.setCell V.drew ⟨w.heap.size+1+1,0,none⟩ (nI x.val))).from _,⟨rfl,pre,x,rfl,rX.o,by rw[HKx.o];exact hb,(show Boxed V.drew (w.heap.size+1+1) 3 (.int .i64 0)from hBx).set _⟩,((hB1.trans (hV1.mono hB1.size)).drew).setCell (p:=⟨w.heap.size+1+1,0,none⟩) (by simp;omega) _⟩
 case done=>
  rintro D ys V hD hys ⟨hp,hV1⟩ rY;have cR:=(uL.below hV1 uL.lt).cell 0;have fR:=(uL.below hV1 uL.lt).frozen 0;simp only[zr,zc]at cR;have hBx:Boxed V (w.heap.size+1+1) 3 (.int .i64 0):=uL.below hV1 uL.lt;go_wp2;have hK':=(KeepsOthers.setCell V ⟨w.heap.size+1+1,0,none⟩ (.int .i64 (-1))).same D _ rY rfl;refine yB ⟨by simp,.inl ⟨_,_,rfl,run_takeDeferred hK', ?_⟩⟩;have xI:=cell_kept (hBx.set (.int .i64 (-1))).cell (grownBy_putObj' _ D (.deferred none)) (λr e=>by cases e;exact⟨_,hK',rfl⟩);refine⟨.int .i64 (-1), ?_,by rw[UA hys hp];rfl,((hB1.trans (hV1.mono hB1.size)).setCell (p:=⟨w.heap.size+1+1,0,none⟩) (by simp;omega) _).trans (belowK_b (w:=w) (zb _) _ D _ _ (by omega) hK' rfl rfl)⟩;simp[results,Tryz.f158,go_sem,xI]
 case stop=>
  rintro D c pre V hD ⟨r,hr⟩ ⟨⟨rfl,pre',x,he,hp,hx,wD⟩,hV1⟩ rY
  gi_wp2
  refine yB ⟨by simp,.inl ⟨_,_,rfl,run_takeDeferred rY, ?_⟩⟩;have xI:=cell_kept wD.cell (grownBy_putObj' _ D (.deferred none)) (λr e=>by cases e;exact⟨_,rY,rfl⟩);refine⟨nI x.val, ?_,by rw[UC (by rw[he]at hr;exact hr) hp hx];rfl,hV1.trans (belowK_b (w:=w) (zb _) V D _ _ (by omega) rY rfl rfl)⟩;simp[results,Tryz.f158,go_sem,xI]
end
section
section
variable {w w' : World} {g : Nat} {t : TypeId} {cs : Array Value}
theorem aj.Cc (h:aj w g t cs){i:Nat}{u:Value}(hu:cs[i]?=some u):w.setCell ⟨g,i,none⟩ u=w:=by
  have e:(w.setCell ⟨g,i,none⟩ u).heap=w.heap:=by
    apply Array.ext_getElem?;intro j;by_cases hj:j=g
    · subst hj;have h1:=h.ak i u;unfold aj at h1 h;rw[h1,h]
      have:cs.setIfInBounds i u=cs:=by
        apply Array.ext_getElem?;intro k;rw[Array.getElem?_setIfInBounds];split
        · next hk => subst hk; split
                     · exact hu.symm
                     · next hlt=>rw[X2 (by omega)]at hu;cases hu
        · rfl
      rw[this]
    · exact Below.heap_setCell w _ u j hj
  cases w;simp only[World.setCell]at e|-;rw[e]
end
/-- 'x[:j]' -/
theorem ZT {P:Program}{t e:TypeId}{size:Nat}(hu:P.underlying t=some (.slice e))(hs:∀w,(sizeOf e).run P w= .ok size w)(A:Option Addr)(n c j:Nat)(hj:j<=c)(W:World):
    (Instr.slice t (.slice A n c) none (some (.int .i64 (j:Int))) none).run P W= .ok (.slice A j c) W:=by
  cases A<;>simp[Instr.slice,XN hu,go_sem,hs]
  all_goals (intro h;omega)
end
