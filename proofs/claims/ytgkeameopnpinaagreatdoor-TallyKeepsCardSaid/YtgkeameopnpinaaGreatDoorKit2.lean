/- A fresh group, a cleared one. -/
import Derived.Test.YtgkeameopnpinaaGreatDoorCoI
import Derived.Test.YtgkeameopnpinaaGreatDoorCoO
import Derived.Test.YtgkeameopnpinaaGreatDoorLaneP
import Derived.Deep.MidRow
import Derived.RangeFuncNested
import Derived.RangeFuncBound
import Derived.RangeFuncCalls
import Derived.RangeFuncLeaves
import Derived.RangeFuncBox
import Derived.Shelf.Abstract
import Derived.Shelf.RegionOpen
import Derived.WalkKit
import Derived.OwnWalkIn
import Derived.TacticsInMore
import Derived.LoopNIn
import Derived.LoopIn
import Derived.OrdersIn
import Derived.ControlIn
import Derived.WalkSpells
import Derived.WalkLawsBesides
namespace Go.Proofs.YtgkeameopnpinaaGreatDoor
set_option maxRecDepth 100000
set_option maxHeartbeats 2000000
open Go.RowKit bY Go.Shelf Go
theorem KV {g:Nat}{t:TypeId}{post:List Value}:∀(vs x pre:List Value) (w:World),x.length=vs.length→aj w g t (pre++(x++post)).toArray→aj (w.setCells g pre.length vs) g t (pre++(vs++post)).toArray
 | [],x,pre,w,hl,h=>by
  have:x=[]:=List.length_eq_zero_iff.1 hl;subst this;exact h
 |v::vs,x,pre,w,hl,h=>by
  cases x with
  |nil=>simp at hl
  |cons y x=>
   have h1:=h.ak (pre.length+0) v;rw[set_mid _ _ _ _ _ (by simp)]at h1;have h2:=KV vs x (pre++[v]) _ (by simpa using hl) (by simpa using h1);simpa[World.setCells]using h2
theorem KW {g:Nat}{S:List Nat}(hg:g∈S){w0:World}:∀(vs:List Value) (o:Nat) (w:World),Mod S w0 w→Mod S w0 (w.setCells g o vs)
 | [],_,_,h=>h
 |v::vs,o,_,h=>KW hg vs (o+1) _ (h.ak (.inl hg) o v)
theorem bZ.ex {w:World}{gb go:Nat}{t:TypeId}{pre post:List Value}{l:List Nat}{es:List av}(h:bZ w gb t pre post go l es)(j:Nat)(hj:j<25):∃v,w.cell? ⟨gb,go+j,none⟩=some v:=by
 have hl:j<(eT l es).length:=by rw[eT,List.length_cons,fU,h.e8];exact hj
 rw[h.blk.cell,List.getElem?_toArray,List.getElem?_append_right (by have:=h.len;omega),List.getElem?_append_left (by have:=h.len;omega)]
 have:go+j-pre.length=j:=by have:=h.len;omega
 rw[this];exact⟨_,List.getElem?_eq_getElem hl⟩
def jq:List Value:=[.int .u64 ((sj 128:Nat):Int),.int .u64 0,.int .u64 0,.int .u64 0,.int .u64 0,.int .u64 0,.int .u64 0,.int .u64 0,.int .u64 0,.int .u64 0,.int .u64 0,.int .u64 0,.int .u64 0,.int .u64 0,.int .u64 0,.int .u64 0,.int .u64 0,.int .u64 0,.int .u64 0,.int .u64 0,.int .u64 0,.int .u64 0,.int .u64 0,.int .u64 0,.int .u64 0]
theorem Dl:jq=eT (List.replicate 8 128) (List.replicate 8 ⟨0,0,0⟩):=by simp[jq,eT,sj,aT,List.replicate]
theorem R9 (w:World):Calls Tryz.prog 163 #[] w fun e w'=>e= .returned (pQ w.heap.size)∧w.alloc (.cells jq.toArray 223)=w':=by
 have H1:=qd (Vn w);go_in;go_wp2_with fail;refine(H1.out).mono ?_;rintro e w1 ⟨rfl,rfl⟩;go_wp2;go_ret;exact⟨rfl,rfl⟩
theorem Qg (gb:Nat)(t:TypeId)(pre post:List Value)(go:Nat)(l:List Nat)(es:List av)(w:World)(h:bZ w gb t pre post go l es):
  Calls Tryz.prog 127 #[bq ⟨gb,go,none⟩] w fun x w'=>x= .returned undef∧bZ w' gb t pre post go (List.replicate 8 128) (List.replicate 8 ⟨0,0,0⟩)∧Mod [gb] w w':=by
 have hB:=(Below.refl w.heap.size w).alloc (Nat.le_refl _) (.cells #[.pointer (some ⟨gb,go,none⟩)] 219);have hV:=aj.new w 219 #[.pointer (some ⟨gb,go,none⟩)];obtain⟨W,hW⟩:∃W,W=w.alloc (.cells #[.pointer (some ⟨gb,go,none⟩)] 219):=⟨_,rfl⟩;rw[←hW]at hB hV;have hG:=h.below hB;have HW:=qd hW;have HB:=qd hB;unfold bq;clear hW h hB;go_in;go_upto_region 1 with fail;rw[←HW.out];have v0:=hV.cell 0;simp only[List.getElem?_toArray,List.getElem?_cons_zero]at v0;refine rT (fun(w':World)=>w'.cell? ⟨w.heap.size,0,none⟩=some (.pointer (some ⟨gb,go,none⟩))) [6] ?_;have hHeld:=v0;refine vW 0 rfl ?_;refine vT 1 rfl ?_;refine nT 2 rfl fun K hK=> ?_;go_simp;refine(R9 _).mono ?_;rintro e w1 ⟨rfl,hN⟩;have hb1:Below W.heap.size W w1:=hN▸((Below.refl W.heap.size W).drew).alloc (Nat.le_refl _) _;have hN1:aj w1 W.heap.size 223 jq.toArray:=hN▸aj.new W.drew _ _;clear hN;go_wp2_with fail;replace v0:=aD hb1 v0
 have hL:w1.rangeAt W.heap.size 0 jq:=fun j v hv=>by rw[hN1.cell,Nat.zero_add,List.getElem?_toArray];exact hv
 have hG1:=hG.below hb1;have hS:w1.there gb go jq.toArray.size:=fun j hj=>⟨by obtain⟨v,hv⟩:=hG1.ex j hj;rw[hv];rfl,hG1.tF _⟩;have hHeld:=v0;refine kO hK ?_;clear hK K;refine nT 3 rfl fun K hK=> ?_;go_simp;refine kO hK ?_;clear hK K;refine nT 4 rfl fun K hK=> ?_;rw[if_pos (by rfl)];refine wp_load_mid 223 (.tmp 5) rfl W.heap.size 0 rfl jq _ hL Tryz.underlying223 rfl (by kernel_rfl) ?_;refine kO hK ?_;clear hK K;refine vW 5 rfl ?_;refine nT 6 rfl fun K hK=> ?_;rw[if_pos (by rfl)];refine wp_store_mid 223 (.tmp 7) (.tmp 6) rfl gb go jq.toArray rfl rfl hS (by kernel_rfl) (by simp[jq];exact⟨rfl,rfl⟩) ?_;refine kO hK ?_;clear hK K;refine aQ (by kernel_rfl) ?_ _;have hM2:Mod [gb] w (w1.setCells gb go jq):=KW (by simp) _ _ _ (Mod.of_below (bR hb1 HB.out) [gb])
 have hG2:bZ (w1.setCells gb go jq) gb t pre post go (List.replicate 8 128) (List.replicate 8 ⟨0,0,0⟩):=
  ⟨hG.len,by simp,pK (by omega),by simp,by have:=KV jq (eT l es) pre w1 (by rw[eT,List.length_cons,fU,hG.e8];rfl) (hG.below hb1).blk;rw[hG.len,Dl]at this;rw[Dl];exact this⟩
 have HP:=qd (And.intro hG2 hM2);clear hG2 hM2;go_wp2;go_end0;exact⟨rfl,HP.out.1,HP.out.2⟩
section
variable {n n₀ : Nat} {S : List Nat} {A w w' : World} {P : Program}
attribute [local go_sem] Oper.semAt_some
structure aW (n₀:Nat)(S:List Nat)(A B:World):Prop where
 os:B.os=A.os
 tape:B.tape=A.tape
 output:B.output=A.output
 size:A.heap.size≤B.heap.size
 block:∀k,k<n₀→k∉S→B.heap[k]?=A.heap[k]?
theorem aW.refl (n₀:Nat)(S:List Nat)(w:World):aW n₀ S w w:=⟨rfl,rfl,rfl,Nat.le_refl _,fun _ _ _=>rfl⟩
theorem aW.drew (n₀:Nat)(S:List Nat)(w:World):aW n₀ S w w.drew:=⟨rfl,rfl,rfl,Nat.le_refl _,fun _ _ _=>rfl⟩
theorem dK {B C:World}(h:aW n₀ S A B)(k:aW n₀ S B C):aW n₀ S A C:=
 ⟨k.os.trans h.os,k.tape.trans h.tape,k.output.trans h.output,Nat.le_trans h.size k.size,fun i hi hs=>(k.block i hi hs).trans (h.block i hi hs)⟩
theorem Mod.uP {B:World}(h:Mod S A B)(hn:n₀≤A.heap.size):aW n₀ S A B:=
 ⟨h.os,h.tape,h.output,h.size,fun k hk hs=>h.block k (Nat.lt_of_lt_of_le hk hn) hs⟩
theorem aW.of_below {B:World}(h:Below n₀ A B):aW n₀ S A B:=⟨h.os,h.tape,h.output,h.size,fun k hk _=>h.block k hk⟩
theorem aW.ak (h:aW n₀ S w w'){b:Nat}(hb:b∈S∨n₀≤b)(o:Nat)(u:Value):aW n₀ S w (w'.setCell ⟨b,o,none⟩ u):=
 ⟨h.os,h.tape,h.output,by simpa using h.size,fun k hk hn=>by
  have hne:k≠b:=by rintro rfl;rcases hb with hb|hb;exact hn hb;omega
  exact(Below.heap_setCell w' ⟨b,o,none⟩ u k hne).trans (h.block k hk hn)⟩
theorem vk (hn:n₀≤w.heap.size)(W:World)(l:Nat)(o o':Obj)(hl:w.heap.size≤l)(_:W.heap[l]?=some o)(_:o.isCells=false)(_:o.isWalk=false):aW n₀ S W (W.putObj l o'):=
 ⟨rfl,rfl,rfl,by simp,fun k hk _=>World.putObj_heap_other (by omega)⟩
theorem aW.grown {a:World}{row:Option Nat}(h:aW n₀ S a w)(hg:w.grownBy w' row)(hn:n₀≤w.heap.size)(hr:∀k,row=some k→n₀≤k):aW n₀ S a w':=
 dK h ⟨hg.os,hg.tape,hg.output,hg.size,fun k hk _=>hg.block k (by omega) (fun e=>by have:=hr k e.symm;omega)⟩
theorem o7 {β:Type}{B:Nat}{w₀:World}(hn:n₀≤w₀.heap.size)(hB:n₀≤B):OwnFrom B (fun(_:β) W=>aW n₀ S w₀ W):=
 fun _ _ _ _ hs hg hr=>hs.grown hg (Nat.le_trans hn hs.size) (fun k e=>Nat.le_trans hB (hr k e).1)
theorem aW.cell {B:World}(h:aW n₀ S A B){p:Addr}(hp:p.block<n₀)(hs:p.block∉S):B.cell? p=A.cell? p:=World.cell?_of_block (w:=A) (h.block p.block hp hs)
theorem aW.mod {B:World}(h:aW A.heap.size S A B):Mod S A B:=⟨h.os,h.tape,h.output,h.size,fun k hk hs=>h.block k hk hs⟩
theorem aW.tz {B:World}(h:aW n₀ S A B)(hg:14 <n₀)(hs:14 ∉S)(hT:fG A):fG B:=fun i hi=>(h.cell (p:=⟨14,oq i,none⟩) hg hs).trans (hT i hi)
theorem aW.blk {B:World}{g:Nat}{t:TypeId}{cs:Array Value}(h:aW n₀ S A B)(hb:aj A g t cs)(hg:g<n₀)(hs:g∉S):aj B g t cs:=(h.block g hg hs).trans hb
theorem sD {f:FuncId}{args:Array Value}{q:Nat}{R:Ending→World→Prop}(h:Calls P f args w R):CallsIn Fence.wide q P f args w R:=callsIn_wide.2 h
abbrev yM (x:Nat):Array Value:= #[nI x]
theorem Sb (q:Nat)(hq:1≤q)(lp Bs:Nat)(l:List Nat)(hl:l.length=8)(hb:Bytes l)(Kp:World→World→Prop)(hT:∀A B,Kp A B→fG A→fG B)(J Jx:List Nat→World→Prop)(hY:∀pre x W,x<8→J pre W→pre.length<8→YieldAt Fence.wide (q-1) Tryz.prog lp (yM x) W fun e W'=>
   (e= .returned (.bool true)∧J (pre++[x]) W'∧Kp W W')∨(e= .returned (.bool false)∧Jx (pre++[x]) W')) (W:World) (hc:W.cell? ⟨Bs,0,none⟩=some (.int .u64 ((w8 l:Nat):Int))) (lu:fG W) (h0:J [] W):
  CallsIn Fence.wide q Tryz.prog 247 #[.func (.yield lp) #[] #[],pQ Bs] W fun e W'=>(∃v,e= .returned v)∧
   ((∃ys,ys=cB 0 (l.map dY)∧J ys W')∨(∃pre,(∃r,pre++r=cB 0 (l.map dY))∧Jx pre W')):=by
 have HH:=qd (fun V=>sD (q:=q-1) (tu l hl hb V));have HF:=qd (fun(m:List Nat) (hm:Marks m) (hml:m.length=8) (i:Nat) (hi:firstM m=some i) (V:World) (hV:fG V)=>sD (q:=q-1) (wP m hml hm.bytes i (by rw[tq hm];exact hi) V hV));obtain⟨L,hL⟩:∃L,L=cB 0 (l.map dY):=⟨_,rfl⟩;have hm0:=pO l
 have hl0:(l.map dY).length=8:=by simpa using hl
 have hL8:L.length≤8:=by rw[hL];have:=AR (l.map dY) 0;omega
 rw[←hL];have HL:=qd hL;clear hL hl hb;refine callsIn_of_wp Tryz.func247 rfl trivial ?_ rfl;simp only[Tryz.ntmps247,List.size_toArray,List.length_cons,List.length_nil,Nat.reduceAdd,Nat.reduceSub,Array.replicate_succ,Array.replicate_zero,List.push_toArray,List.append_toArray,List.nil_append,List.cons_append]
 gi_wp2_with (refine⟨trivial, ?_⟩;gi_at_call 245;refine(HH.out _).mono ?_;rintro e w' ⟨rfl,rfl⟩)
 gi_loopw [3] (fun v wr=>∃(m:List Nat) (pre:List Nat),Marks m∧m.length=8∧v= .int .u64 ((w8 m:Nat):Int)∧Hid (pre++cB 0 m=L)∧J pre wr∧fG wr) (fun v _=>(intOf v).toNat)
 case atStart=>exact⟨_,[],hm0,hl0,rfl,qd HL.out.symm,h0,lu⟩
 case round=>
  obtain⟨m,pre,hm,hml,rfl,HP,hJ,hTr⟩:=hrel;have Sc:=qd hTr;clear hTr;by_cases hz:w8 m=0
  ·have hz':(((w8 m:Nat):Int) !=0)=false:=by rw[hz];rfl
   have hn:=(oo hm).1 hz;have hp:=HP.out;rw[EO 0 hn,List.append_nil]at hp;have Qh:=qd hp;clear hz hn hp
   gi_wp2
   go_end0;exact⟨⟨_,rfl⟩,.inl ⟨_,Qh.out,hJ⟩⟩
  ·have hz':(((w8 m:Nat):Int) !=0)=true:=by rw[bne_iff_ne];omega
   obtain⟨i,hi⟩:=ND hm hz;have hp:=HP.out;rw[EN 0 hi,Nat.zero_add]at hp
   have hlen:pre.length<8:=by have:=congrArg List.length hp;simp at this;omega
   have hdv:=Vl hm hml hz;have hdl:=Oz hm hz;have Qh:=qd hp;have HD:=qd hdv;have Im:=qd (HF.out m hm hml i hi wr Sc.out);have Hi:=qd hi;obtain⟨fn,tmps,assign,body,hy,Dm⟩:=hY pre i wr (by have:=DZ hi;omega) hJ hlen;simp only[yM]at hy Dm;clear hp hi hdv hz
   gi_wp2_with (refine⟨trivial, ?_⟩;gi_at_call 222;refine Im.out.mono ?_;rintro e w' ⟨rfl,rfl⟩)
   refine Dm.mono ?_;rintro e W3 (⟨rfl,hJ3,hk3⟩|⟨rfl,hJx3⟩)
   ·gi_wp2
    rw[HD.out];go_roundw
    case rel=>exact⟨lI m,pre++[i],EM hm,by rw[AQ];exact hml,rfl,qd (by rw[List.append_assoc];exact Qh.out),hJ3,hT _ _ hk3 Sc.out⟩
    case measure=>simp[intOf];omega
   ·gi_wp2
    refine bodyPost_ret (results_none rfl _ _ _) rfl ?_;exact⟨⟨_,rfl⟩,.inr ⟨_,⟨cB 0 (lI m),by rw[List.append_assoc];exact Qh.out⟩,hJx3⟩⟩
theorem Fa (l:List Nat)(w:World):Calls Tryz.prog 224 #[.int .u64 ((w8 l:Nat):Int)] w fun e w'=>e= .returned (.func (.func 247) #[] #[pQ w.heap.size])∧w.alloc (.cells #[.int .u64 ((w8 l:Nat):Int)] 23)=w':=by
 go_in;go_wp2;go_ret;exact⟨rfl,rfl⟩
theorem Zp (hn:Pw n){a:Nat}(ha:a<128):bits .and .i64 (a:Int) ((n:Int)-1)=((a % n:Nat):Int):=by
 have H:∀n∈([1,2,4,8,16,32,64]:List Nat),∀a:Fin 128,bits .and .i64 (a.val:Int) ((n:Int)-1)=((a.val % n:Nat):Int):=by decide+kernel
 have hm:n∈([1,2,4,8,16,32,64]:List Nat):=by unfold Pw at hn;simp;omega
 exact H n hm ⟨a,ha⟩
def Bb (h n j:Nat):Nat:=(h+(ET j-j)) % n
theorem KX (j:Nat):ET (j+1)=ET j+(j+1):=by
 unfold ET
 have:(j+1)*(j+1+1)=j*(j+1)+2*(j+1):=by rw[Nat.mul_add (j+1) (j+1) 1,Nat.add_mul,Nat.mul_comm j (j+1)];omega
 rw[this];omega
theorem aau (j:Nat):j≤ET j:=by
 cases j with
 |zero=>exact Nat.zero_le _
 |succ j=>rw[KX];omega
theorem VD (h n j:Nat):(Bb h n j+j) % n=bV h n j:=by
 unfold Bb bV;rw[Nat.mod_add_mod];have:=aau j;congr 1;omega
theorem VE (h n j:Nat):Bb h n (j+1)=bV h n j:=by
 unfold Bb bV;rw[KX,Nat.add_sub_cancel]
theorem VF (h n:Nat):Bb h n 0=h % n:=by simp[Bb,ET]
theorem Bc (h n j:Nat)(hj:j≤n):(walk h n).take j=(List.range j).map (bV h n):=by
 unfold walk;rw[←List.map_take,List.take_range,Nat.min_eq_left hj]
theorem VG (q:Nat)(hq:1≤q)(lp Bg Bh:Nat)(h n:Nat)(h64:h<18446744073709551616)(hn:Pw n)(Kp:World→World→Prop)(hKr:∀W,Kp W W)(hKt:∀{A B C:World},Kp A B→Kp B C→Kp A C)(hKc:∀(W W':World) (v:Value),Kp W W'→W.cell? ⟨Bg,0,none⟩=some v→W'.cell? ⟨Bg,0,none⟩=some v)(J Jx:List Nat→World→Prop)(hY:∀pre x W,x<n→J pre W→pre.length<64→YieldAt Fence.wide (q-1) Tryz.prog lp (yM x) W fun e W'=>
   (e= .returned (.bool true)∧J (pre++[x]) W'∧Kp W W')∨(e= .returned (.bool false)∧Jx (pre++[x]) W')) (W:World) (hcg:W.cell? ⟨Bg,0,none⟩=some (nI n)) (hch:W.cell? ⟨Bh,0,none⟩=some (nU h)) (h0:J [] W):
  CallsIn Fence.wide q Tryz.prog 220 #[.func (.yield lp) #[] #[],pQ Bg,pQ Bh] W fun e W'=>(∃v,e= .returned v)∧
   ((∃ys,ys=walk h n∧J ys W')∨(∃pre,(∃j,j≤n∧pre=(walk h n).take j)∧Jx pre W')):=by
 have HR:=qd (fun V=>sD (q:=q-1) (NH n hn V));have HH:=qd (fun V=>sD (q:=q-1) (Qb h n h64 hn V));have HA:=qd (fun(a:Nat) (ha:a<128)=>Zp hn ha)
 have hn1:(1:Int)≤(n:Int):=by have:=hn.pos;omega
 have hn2:(n:Int)≤64:=by have:=hn.le;omega
 have hpos:=hn.pos;have HN:=qd hn;clear hn;refine callsIn_of_wp Tryz.func220 rfl trivial ?_ rfl;simp only[Tryz.ntmps220,List.size_toArray,List.length_cons,List.length_nil,Nat.reduceAdd,Nat.reduceSub,Array.replicate_succ,Array.replicate_zero,List.push_toArray,List.append_toArray,List.nil_append,List.cons_append]
 gi_wp2_with (first
  |(refine⟨trivial, ?_⟩;gi_at_call 161;refine(HR.out _).mono ?_;rintro e w' ⟨rfl,rfl⟩)
  |(refine⟨trivial, ?_⟩;gi_at_call 221;refine(HH.out _).mono ?_;rintro e w' ⟨rfl,rfl⟩))
 gi_loopw [4,5,13] (fun a _ i wr=>∃j:Nat,j≤n∧i=nI j∧a= .int .i64 ((Bb h n j:Nat):Int)∧J ((walk h n).take j) wr∧Kp W wr) (fun _ _ i _=>n-(intOf i).toNat)
 case atStart=>exact⟨0,Nat.zero_le _,rfl,congrArg (Value.int .i64) (by rw[VF];omega),h0,hKr _⟩
 case round=>
  obtain⟨j,hj,rfl,rfl,hJ,hK⟩:=hrel;by_cases hlt:j<n
  ·have hlt':(j:Int)<(n:Int):=by omega
   have aec:=hKc _ _ _ hK hcg;have ha0:Bb h n j<n:=Nat.mod_lt _ hpos;have hv:=HA.out (Bb h n j+j) (by have:=HN.out.le;omega);rw[VD]at hv
   have hv2:bits .and .i64 (((Bb h n j:Nat):Int)+(j:Int)) ((n:Int)-1)=((bV h n j:Nat):Int):=by rw[←hv];congr 1
   have hnx:=VE h n j
   have htk:(walk h n).take (j+1)=(walk h n).take j++[bV h n j]:=by
    rw[Bc _ _ _ hlt,Bc _ _ _ hj,List.range_succ,List.map_append];rfl
   have hlen:((walk h n).take j).length<64:=by rw[Bc _ _ _ hj];simp;have:=HN.out.le;omega
   obtain⟨fn,tmps,assign,body,hy,Dm⟩:=hY _ (bV h n j) wr (Nat.mod_lt _ hpos) hJ hlen;simp only[yM]at hy Dm;generalize bV h n j=x at*;generalize Bb h n j=b at*;have HT:=qd htk;have HX:=qd hnx
   have hb0:(0:Int)≤(b:Int):=by omega
   have hb1:(b:Int)<64:=by omega
   clear hv htk hnx
   gi_wp2
   refine Dm.mono ?_;rintro e W3 (⟨rfl,hJ3,hk3⟩|⟨rfl,hJx3⟩)
   ·gi_wp2
    go_roundw
    case rel=>exact⟨j+1,by omega,by go_num,by rw[HX.out],by rw[HT.out];exact hJ3,hKt hK hk3⟩
    case measure=>simp[intOf];omega
   ·gi_wp2
    refine bodyPost_ret (results_none rfl _ _ _) rfl ?_;exact⟨⟨_,rfl⟩,.inr ⟨_,⟨j+1,by omega,HT.out.symm⟩,hJx3⟩⟩
  ·obtain rfl:j=n:=by omega
   have hlt':¬(j:Int)<(j:Int):=by omega
   have hw:(walk h j).take j=walk h j:=List.take_of_length_le (by simp[walk]);rw[hw]at hJ;clear hw
   gi_wp2
   go_end0
   first|exact⟨⟨_,rfl⟩,.inl ⟨_,rfl,hJ⟩⟩|exact⟨⟨_,rfl⟩,.inl hJ⟩
theorem Qi (h n:Nat)(w:World):Calls Tryz.prog 188 #[nU h,nI n] w fun e w'=>e= .returned (.func (.func 220) #[] #[.pointer (some ⟨w.heap.size+1,0,none⟩),pQ w.heap.size])∧(w.alloc (.cells #[nU h] 23)).alloc (.cells #[nI n] 3)=w':=by
 go_in;go_wp2;go_ret;exact⟨rfl,rfl⟩
abbrev KY {n:Nat}(x:Fin n):Array Value:=yM x.val
def zA {n:Nat}(J:List (Fin n)→World→Prop)(pre:List Nat)(W:World):Prop:=∃p:List (Fin n),p.map Fin.val=pre∧J p W
theorem Dn {N:Nat}{F:Fence}{m l:Nat}{J Jx:List (Fin n)→World→Prop}{Kp:World→World→Prop}(hY:∀pre x W1,J pre W1→pre.length<N→YieldAt F m P l (KY x) W1 fun e W'=>(e= .returned (.bool true)∧J (pre++[x]) W'∧Kp W1 W')∨(e= .returned (.bool false)∧Jx (pre++[x]) W')):
  ∀pre x W1,x<n→zA J pre W1→pre.length<N→YieldAt F m P l (yM x) W1 fun e W'=>(e= .returned (.bool true)∧zA J (pre++[x]) W'∧Kp W1 W')∨(e= .returned (.bool false)∧zA Jx (pre++[x]) W'):=by
 rintro pre x W1 hx ⟨p,rfl,hJ⟩ hlen;obtain⟨fn,tmps,assign,body,hy,Dm⟩:=hY p ⟨x,hx⟩ W1 hJ (by simpa using hlen);refine⟨fn,tmps,assign,body,hy,Dm.mono fun e W' he=> ?_⟩;rcases he with⟨h1,h2,h3⟩|⟨h1,h2⟩
 ·exact .inl ⟨h1,⟨_,by simp,h2⟩,h3⟩
 ·exact .inr ⟨h1,⟨_,by simp,h2⟩⟩
theorem Dp (q:Nat)(hq:1≤q)(Bs n₀:Nat)(S:List Nat)(l:List Nat)(hl:l.length=8)(hb:Bytes l)(w:World)(hg:14 <n₀)(hs:14 ∉S)(hn₀:n₀≤w.heap.size)(X6:Bs<w.heap.size)(hc:w.cell? ⟨Bs,0,none⟩=some (.int .u64 ((w8 l:Nat):Int)))(hT:fG w):
  SeqStopsK (α:=Fin 8) Fence.wide q Tryz.prog 247 #[pQ Bs] KY (aW n₀ S) (fun ys=>ys.map Fin.val=cB 0 (l.map dY)) (fun pre=>∃r,pre.map Fin.val++r=cB 0 (l.map dY)) 8 w:=fun lp J Jx W hW _ _ hY h0=>
 (Sb q hq lp Bs l hl hb (aW n₀ S) (fun _ _ h=>h.tz hg hs) (zA J) (zA Jx) (Dn hY) W ((hW.cell (p:=⟨Bs,0,none⟩) X6).trans hc) (fun i hi=>(hW.cell (p:=⟨14,oq i,none⟩) (Nat.lt_of_lt_of_le hg hn₀)).trans (hT i hi)) ⟨[],rfl,h0⟩).mono fun e W' he=>by
  obtain⟨hv,⟨ys,hys,p,hp,hJ⟩|⟨pre,⟨r,hr⟩,p,hp,hJ⟩⟩:=he
  ·exact⟨hv,.inl ⟨p,hp.trans hys,hJ⟩⟩
  ·exact⟨hv,.inr ⟨p,⟨r,by rw[hp];exact hr⟩,hJ⟩⟩
theorem Qj (q:Nat)(hq:1≤q)(Bg Bh n₀:Nat)(S:List Nat)(h n:Nat)(h64:h<18446744073709551616)(hn:Pw n)(w:World)(hBg:Bg<n₀)(hgs:Bg∉S)(vI:Bh<w.heap.size)(hn₀:n₀≤w.heap.size)(hcg:w.cell? ⟨Bg,0,none⟩=some (nI n))(hch:w.cell? ⟨Bh,0,none⟩=some (nU h)):
  SeqStopsK (α:=Fin n) Fence.wide q Tryz.prog 220 #[pQ Bg,pQ Bh] KY (aW n₀ S) (fun ys=>ys.map Fin.val=walk h n) (fun pre=>∃j,j≤n∧pre.map Fin.val=(walk h n).take j) 64 w:=fun lp J Jx W hW _ _ hY h0=>
 (VG q hq lp Bg Bh h n h64 hn (aW n₀ S) (aW.refl _ _) dK (fun _ _ _ hk hc=>(hk.cell (p:=⟨Bg,0,none⟩) hBg hgs).trans hc) (zA J) (zA Jx) (Dn hY) W ((hW.cell (p:=⟨Bg,0,none⟩) (Nat.lt_of_lt_of_le hBg hn₀)).trans hcg) ((hW.cell (p:=⟨Bh,0,none⟩) vI).trans hch) ⟨[],rfl,h0⟩).mono fun e W' he=>by
  obtain⟨hv,⟨ys,hys,p,hp,hJ⟩|⟨pre,⟨j,hj,hr⟩,p,hp,hJ⟩⟩:=he
  ·exact⟨hv,.inl ⟨p,hp.trans hys,hJ⟩⟩
  ·exact⟨hv,.inr ⟨p,⟨j,hj,hp.trans hr⟩,hJ⟩⟩
end
section
variable {i l n : Nat} {a : Act} {w : World} {F : Fence} {c : Code}
section
variable {P : Program} {ops : Array Oper} {Q : Exit → Act → World → Prop} {md : Region.Mode} {S : World → Prop} {late : List Nat}
def Cx (ops:Array Oper):Bool:=ops.all fun o=>match o.op with
 | .defer _=>false
 |_=>true
theorem KZ (h:Cx ops=true)(i:Nat)(o:Oper)(hi:ops[i]?=some o)(c:Call):o.op≠ .defer c:=fun he=>by
 obtain⟨hlt,rfl⟩:=Array.getElem?_eq_some_iff.1 hi;have:=Array.all_eq_true.1 h i hlt;rw[he]at this;cases this
theorem Sd {K K':Act→World→Prop}(hnd:Cx ops=true)(hQ:¬LetsOut Q)(hK:∀a w,K a w→K' a w)(h:wpOp P ops Q i K a w):wpOpIn (Fence.wide.inRound l) n P ops Q i K' a w:=by
 unfold wpOp at h;unfold wpOpIn
 cases hi:ops[i]? with
 |none=>rw[hi]at h;exact hK _ _ h
 |some o=>
  rw[hi]at h;dsimp only at h⊢;split
  ·next hw=>
   rw[if_pos hw]at h;rcases h with h|⟨_,hl⟩
   ·refine⟨fun _ _=>trivial, ?_⟩;rw[Oper.semAt_eq _ _ _ (KZ hnd i o hi)];unfold Oper.wp at h;generalize(execOp a.eval o).run P w=r at*
    cases r with
    |ok x w'=>
     cases x<;>simp only[Oper.upon,Oper.uponIn]at h⊢
     case value u=>exact hK _ _ h
     case skip=>exact hK _ _ h
     case defer d=>exact hK _ _ h
     case enter f args=>
      refine⟨fun hd=>by simp[Fence.wide]at hd,CallsIn.inRound l ((callsIn_wide.2 h).mono fun e w'' he=> ?_)⟩
      cases e with
      |returned u=>exact hK _ _ he
      |panicked c=>exact he
      |outgrown=>exact he
     case row row args=>
      refine⟨fun hd=>by simp[Fence.wide]at hd,fun c cs _=> ?_⟩;obtain⟨v,w1,h1,h2⟩:=h c cs;exact⟨v,w1,hK _ _ h1,stepsIn_wide.2 h2⟩
    |halt x w'=>cases x<;>simp only[Oper.upon,Oper.uponIn]at h⊢<;>exact h
   ·exact absurd hl hQ
  ·next hw=>
   rw[if_neg hw]at h;exact⟨fun _ _=>trivial,hK _ _ h⟩
theorem Fb (hnd:Cx ops=true)(hQ:¬LetsOut Q):∀(f:Nat) (listed:Array Bool) (a:Act) (w:World),wpAny P md ops Q f listed a w→wpAnyIn (Fence.wide.inRound l) n P md ops Q f listed a w
 |0,_,_,_,h=>h
 |f+1,_,_,_,h=>⟨h.1,fun i hi=>Sd hnd hQ (fun a' w' h'=>Fb hnd hQ f _ a' w' h') (h.2 i hi)⟩
theorem zB {id:Nat}(S:World→Prop)(late:List Nat)(hm:P.follows .mixedOrders=true)(hnd:Cx ops=true)(hQ:¬LetsOut Q)(h:bL P .any ops Q S late ops.size (Array.replicate ops.size false) a {w with drawn:=w.drawn+1}):(Code.region id ops true).wpIn (Fence.wide.inRound l) n P Q a w:=
 wpIn_region_any hm (Fb hnd hQ _ _ _ _ (zy _ _ _ _ h))
theorem pairT {j:Nat}{o o':Oper}{f:Nat}{listed:Array Bool}(hi:ops[i]?=some o)(hj:ops[j]?=some o')(hr:Region.ready md ops listed=[i,j])(h1:∀K:Act→World→Prop,RowKit.Hid (∀a' w',(i∉late→S w')→bL P md ops Q S late f (listed.setIfInBounds i true) a' w'→K a' w')→if Region.wanted o (yielded ops a.tmps)=true then o.wp P a w K Q else K (a.put o.dst undef) w)(h2:∀K:Act→World→Prop,RowKit.Hid (∀a' w',(j∉late→S w')→bL P md ops Q S late f (listed.setIfInBounds j true) a' w'→K a' w')→if Region.wanted o' (yielded ops a.tmps)=true then o'.wp P a w K Q else K (a.put o'.dst undef) w):bL P md ops Q S late (f+1) listed a w:=by
 have one:∀(k:Nat) (x:Oper),ops[k]?=some x→k∈Region.ready md ops listed→
   (∀K:Act→World→Prop,RowKit.Hid (∀a' w',(k∉late→S w')→bL P md ops Q S late f (listed.setIfInBounds k true) a' w'→K a' w')→if Region.wanted x (yielded ops a.tmps)=true then x.wp P a w K Q else K (a.put x.dst undef) w)→
   wpOp P ops Q k (fun a' w'=>(Early late (listed.setIfInBounds k true)→S w')∧bL P md ops Q S late f (listed.setIfInBounds k true) a' w') a w:=by
  intro k x hk hkr h;have hun:listed.getD k true=false:=(mem_ready.1 hkr).1;unfold wpOp;simp only[hk]
  have:=h (fun a' w'=>(Early late (listed.setIfInBounds k true)→S w')∧bL P md ops Q S late f (listed.setIfInBounds k true) a' w') (qd fun a' w' h1 h2=>⟨fun hE=>by
   by_cases hkn:k∈late
   ·have h3:=hE k hkn
    have hlt:k<listed.size:=by
     rcases Nat.lt_or_ge k listed.size with h'|h'
     ·exact h'
     ·simp[Array.getElem?_eq_none h']at hun
    simp[hlt]at h3
   ·exact h1 hkn,h2⟩)
  split
  ·next hw=>rw[if_pos hw]at this;exact .inl this
  ·next hw=>rw[if_neg hw]at this;exact this
 refine⟨(fun h0=>by rw[hr]at h0;cases h0),fun k hk=> ?_⟩;have hk':=hk;rw[hr]at hk;rcases List.mem_cons.1 hk with rfl|hk
 ·exact one _ o hi hk' h1
 ·obtain rfl:k=j:=by simpa using hk
  exact one _ o' hj hk' h2
def aav (R:Act→World→Prop)(Q:Exit→Act→World→Prop):Exit→Act→World→Prop
 | .normal,a,w=>R a w
 |e,a,w=>Q e a w
theorem acI (R:Act→World→Prop)(h:c.wpIn F n P (aav R Q) a w)(hR:∀a w,R a w→Q .normal a w):c.wpIn F n P Q a w:=
 wpIn_mono h fun e a w hq=>by cases e<;>first|exact hR _ _ hq|exact hq
def X7 (Q:Exit→Act→World→Prop):Exit→Act→World→Prop
 | .panic _,_,_=>False
 |e,a,w=>Q e a w
theorem kF {f:FuncId}{fn:Func}{args:Array Value}{R:Ending→World→Prop}(hf:P.funcs[f]?=some fn)(hb:fn.body=some c)(hF:F.fn f)(hro:F.round=none)(h:c.wpIn F n P (X7 (bodyPostM F n P fn R)) {tmps:=args++Array.replicate (fn.ntmps-args.size) undef,defers:=[]} w):CallsIn F n P f args w R:=
 callsIn_of_wp_marks hf hb hF (wpIn_mono h fun e _ _ hq=>by cases e<;>first|exact hq|exact hq.elim) hro
end
end
section
variable {l : List Nat} {es : List av} {h2 key : Nat}
attribute [local go_sem] Oper.semAt_some
def Cy (l:List Nat)(es:List av)(key h2:Nat):Option Nat:=(cB 0 (l.map (ku h2))).find? fun i=>(es.getD i ⟨0,0,0⟩).key==key
theorem Qk {ys:List (Fin 8)}(hys:ys.map Fin.val=cB 0 ((l.map (ku h2)).map dY))(hp:∀x∈ys,((es.getD x.val ⟨0,0,0⟩).key==key)=false):Cy l es key h2=none:=by
 unfold Cy;rw[tq (DY h2 l)]at hys;rw[←hys,List.find?_eq_none];intro x hx;obtain⟨y,hy,rfl⟩:=List.mem_map.1 hx;rw[hp y hy];simp
theorem Ql {pre:List (Fin 8)}{x:Fin 8}{r:List Nat}(hys:(pre++[x]).map Fin.val++r=cB 0 ((l.map (ku h2)).map dY))(hp:∀x∈pre,((es.getD x.val ⟨0,0,0⟩).key==key)=false)(hx:((es.getD x.val ⟨0,0,0⟩).key==key)=true):Cy l es key h2=some x.val:=by
 unfold Cy;rw[tq (DY h2 l)]at hys
 rw[←hys,List.map_append,List.append_assoc,List.find?_append,List.find?_eq_none.2 (fun y hy=>by
  obtain⟨z,hz,rfl⟩:=List.mem_map.1 hy
  rw[hp z hz];simp)]
 show Option.or none (List.find? _ (x.val::r))=_;rw[List.find?_cons_of_pos (p:=fun i=>(es.getD i ⟨0,0,0⟩).key==key) hx];rfl
theorem vo {F:Fence}{n:Nat}{P:Program}{fn:Func}{R:Ending→World→Prop}{a:Act}{w:World}(h:LeavesInM F n P fn a.tmps R a.defers .returning w):X7 (bodyPostM F n P fn R) .ret a w:=h
theorem Sg (gb:Nat)(t:TypeId)(pre post:List Value)(go:Nat)(l:List Nat)(es:List av)(key hash:Nat)(h64:hash<18446744073709551616)(w:World)(h:bZ w gb t pre post go l es)(hT:fG w):
  Calls Tryz.prog 191 #[bq ⟨gb,go,none⟩,nU key,nU hash] w fun e w'=>e= .returned (.int .i64 (sw (Cy l es key (hash % 128))))∧Below w.heap.size w w':=by
 obtain⟨W,hW,hB,hV,hK,hR⟩:=qX3 w 219 #[.pointer (some ⟨gb,go,none⟩)] 23 #[nU key] 3 #[.int .i64 0];have hG:=h.below hB;have H2:=qd (KM hash h64);have lY:=qd (PZ l h.l8 h.bytes (hash % 128) (by omega));have HW:=qd hW;have HB:=qd hB;have hg:=World.block_lt_of_cell? w _ (hT 0 (by omega));have K3:=h.l8;unfold bq;clear hW h hB;refine(callsIn_wide (n:=10)).1 ?_
 have h1:1≤10:=by omega
 refine kF Tryz.func191 rfl trivial rfl ?_;simp only[Tryz.ntmps191,List.size_toArray,List.length_cons,List.length_nil,Nat.reduceAdd,Nat.reduceSub,Array.replicate_succ,Array.replicate_zero,List.push_toArray,List.append_toArray,List.nil_append,List.cons_append];refine wpIn_wide.2 ?_;go_upto_region 1 with fail;rw[←HW.out];have v0:=hV.cell 0;simp only[List.getElem?_toArray,List.getElem?_cons_zero]at v0;have hw:=hG.word;refine rT (fun(w':World)=>w'.cell? ⟨w.heap.size,0,none⟩=some (.pointer (some ⟨gb,go,none⟩))∧w'.cell? ⟨gb,go,none⟩=some (.int .u64 ((w8 l:Nat):Int))) [] ?_;have hHeld:=(⟨v0,hw⟩:_∧_);refine vW 0 rfl ?_;refine vT 1 rfl ?_;refine vW 2 rfl ?_;refine vW 3 rfl ?_;refine vT 4 rfl ?_;refine vW 5 rfl ?_;refine nT 6 rfl fun K hK=> ?_;go_simp;refine(H2.out _).mono ?_;rintro e w1 ⟨rfl,rfl⟩;go_wp2_with fail;have hHeld:=(⟨v0,hw⟩:_∧_);refine kO hK ?_;clear hK K;refine nT 7 rfl fun K hK=> ?_;go_simp;refine(lY.out _).mono ?_;rintro e w1 ⟨rfl,rfl⟩;go_wp2_with fail;have hHeld:=(⟨v0,hw⟩:_∧_);refine kO hK ?_;clear hK K;refine nT 8 rfl fun K hK=> ?_;go_simp;refine(Fa (l.map (ku (hash % 128))) _).mono ?_;rintro e w1 ⟨rfl,hw1⟩;have hb1:Below W.heap.size W w1:=hw1▸((Below.refl W.heap.size W).drew).alloc (Nat.le_refl _) _;have hL1:aj w1 W.heap.size 23 #[.int .u64 ((w8 (l.map (ku (hash % 128))):Nat):Int)]:=hw1▸aj.new W.drew _ _;clear hw1;go_wp2_with fail;replace v0:=aD hb1 v0;replace hw:=aD hb1 hw;have hHeld:=(⟨v0,hw⟩:_∧_)
 refine kO hK ?_;clear hK K;refine aQ (by kernel_rfl) ?_ _;go_wp2_with fail;refine(wpIn_wide (n:=10)).1 ?_;have hB1:Below w.heap.size w w1:=bR hb1 HB.out;have hlt3:w.heap.size+1+1<W.heap.size:=hR.lt;have hT1:fG w1:=fun i hi=>(hB1.cell (p:=⟨14,oq i,none⟩) hg).trans (hT i hi);have hG1:=hG.below hb1;have hK1:=(hK.below hb1 hK.lt).cell 0;have vJ:=hR.below hb1 hR.lt;have hbl:=hB1.size;simp only[List.getElem?_toArray,List.getElem?_cons_zero]at hK1
 refine wpIn_rangeFunc_ownH rfl h1 (gf:=247) (lb:= #[pQ W.heap.size]) rfl trivial (enters_of Tryz.func247 (by kernel_rfl) rfl)
  (Dp (10-1) (by omega) W.heap.size w1.heap.size [] (l.map (ku (hash % 128))) (by simpa using K3) (DY _ l).bytes w1 (by omega) (by simp) (Nat.le_refl _) hL1.lt (hL1.cell 0) hT1) dK (vk (Nat.le_refl _)) (Below.refl _ _) (fun _=>rfl)
  (fun pre V=>(∀x∈pre,((es.getD x.val ⟨0,0,0⟩).key==key)=false)∧Below w1.heap.size w1 V)
  (fun c pre V=>(c= .ret∧∃pre' x,pre=pre'++[x]∧(∀y∈pre',((es.getD y.val ⟨0,0,0⟩).key==key)=false)∧((es.getD x.val ⟨0,0,0⟩).key==key)=true∧Boxed V (w.heap.size+1+1) 3 (nI x.val))∧Below w.heap.size w V)
  (OwnFrom.and (fun _ _ _ _ hs _ _=>hs) (ownFrom_below (Nat.le_refl _) (Nat.le_refl _)))
  (fun c=>OwnFrom.and (fun _ X Y row hs hg hr=>by
   obtain⟨h0,pre',x,h2,h3,h4,h5⟩:=hs
   exact⟨h0,pre',x,h2,h3,h4,boxed_own (w.heap.size+1+1) 3 (fun(_:Unit)=>Value.int .i64 (x.val:Int)) () X Y row h5 hg (fun r e=>(hr r e).2)⟩) (ownFrom_below (Nat.le_refl _) (by omega)))
  ⟨by simp,Below.refl _ _⟩
  (fun x a' _=>a'={tmps:= #[.agg #[.pointer (some ⟨gb,go,none⟩)],nU key,nU hash,pQ w.heap.size,.pointer (some ⟨w.heap.size+1,0,none⟩),undef,.pointer (some ⟨w.heap.size+1+1,0,none⟩),nI x.val,pQ w.heap.size,.pointer (some ⟨gb,go,none⟩),.pointer (some ⟨gb,go,none⟩),.pointer (some ⟨gb,go,none⟩),.int .u64 ((w8 l:Nat):Int),nU hash,.int .u8 ((hash:Int) % 128),.int .u64 ((w8 (List.map (ku (hash % 128)) l):Nat):Int),.func (.func 247) #[] #[pQ W.heap.size],nI x.val,undef,undef,undef,undef,undef,undef,undef,undef,undef,undef,undef],defers:=[]})
  (fun _ _ _ _ _ _ hs _ _=>hs) ?assign ?body ?done ?stop
 case assign=>
  rintro lp pre x V K hi hK
  gi_wp2
  exact hK _ _ (KeepsFrom.refl _ _) (aW.refl _ _ _) hi rfl
 case body=>
  rintro lp pre x a' V hl ⟨r,hr⟩ ⟨hp,hV1⟩ rfl hlt;have Io:x.val<8:=x.isLt;have hv:=aD hV1 v0;have hk:=aD hV1 hK1;have s0:=(hG1.below hV1).at_ x.val 0 Io (by omega);rw[Nat.add_zero]at s0;simp only[aT,List.getElem?_cons_zero]at s0
  have hxi:(x.val:Int)<8:=by omega
  have hx0:(0:Int)≤(x.val:Int):=by omega
  have pX:=qd hp
  have HO:(((es.getD x.val ⟨0,0,0⟩).key:Int)==(key:Int))=((es.getD x.val ⟨0,0,0⟩).key==key):=by rw[Bool.eq_iff_iff,beq_iff_eq,beq_iff_eq];omega
  generalize hkx:(es.getD x.val ⟨0,0,0⟩).key=kx at*;have HKx:=qd hkx;clear hp hkx
  gi_wp2_with fail
  refine zB (fun(w':World)=>w'.cell? ⟨w.heap.size,0,none⟩=some (.pointer (some ⟨gb,go,none⟩))∧w'.cell? ⟨w.heap.size+1,0,none⟩=some (nU key)∧w'.cell? ⟨gb,go+1+x.val*3,none⟩=some (nU kx)) [] (by kernel_rfl) (by kernel_rfl) (by rintro⟨_,_,h⟩;exact h) ?_
  try (change bL _ _ _ _ _ _ _ _ _ (World.drew _))
  have hHeld:=(⟨hv,hk,s0⟩:_∧_∧_);refine vW 0 rfl ?_;refine vT 1 rfl ?_;refine vW 2 rfl ?_;refine vW 3 rfl ?_;refine vW 4 rfl ?_;refine vW 5 rfl ?_;refine vW 6 rfl ?_;refine vT 7 rfl ?_;refine vT 8 rfl ?_;refine vW 9 rfl ?_;refine aQ (by kernel_rfl) ?_ _
  cases hb:(kx==key)with
  |false=>
   rw[hb]at HO
   gi_wp2
   exact⟨(KeepsOthers.drew _).from _,aW.drew _ _ _,fun y hy=>(List.mem_append.1 hy).elim (pX.out y) (fun e=>by simp at e;subst e;rw[HKx.out];exact hb),hV1.drew⟩
  |true=>
   rw[hb]at HO;have cR:=(vJ.below hV1 vJ.lt).cell 0;have fR:=(vJ.below hV1 vJ.lt).frozen 0;simp only[List.getElem?_toArray,List.getElem?_cons_zero]at cR
   gi_wp2
   have hBx:Boxed V (w.heap.size+1+1) 3 (.int .i64 0):=vJ.below hV1 vJ.lt;exact⟨((KeepsOthers.drew V).trans (KeepsOthers.setCell V.drew ⟨w.heap.size+1+1,0,none⟩ (nI x.val))).from _,⟨rfl,pre,x,rfl,pX.out,by rw[HKx.out];exact hb,(show Boxed V.drew (w.heap.size+1+1) 3 (.int .i64 0)from hBx).set _⟩,((hB1.trans (hV1.mono hB1.size)).drew).setCell (p:=⟨w.heap.size+1+1,0,none⟩) (by simp;omega) _⟩
 case done=>
  rintro D ys V hD hys ⟨hp,hV1⟩ pY;have cR:=(vJ.below hV1 vJ.lt).cell 0;have fR:=(vJ.below hV1 vJ.lt).frozen 0;simp only[List.getElem?_toArray,List.getElem?_cons_zero]at cR;have hBx:Boxed V (w.heap.size+1+1) 3 (.int .i64 0):=vJ.below hV1 vJ.lt;go_wp2;have hK':=(KeepsOthers.setCell V ⟨w.heap.size+1+1,0,none⟩ (.int .i64 (-1))).same D _ pY rfl;refine vo ⟨by simp,.inl ⟨_,_,rfl,run_takeDeferred hK', ?_⟩⟩;have X8:=cell_kept (hBx.set (.int .i64 (-1))).cell (grownBy_putObj' _ D (.deferred none)) (fun r e=>by cases e;exact⟨_,hK',rfl⟩);refine⟨.int .i64 (-1), ?_,by rw[Qk hys hp];rfl,((hB1.trans (hV1.mono hB1.size)).setCell (p:=⟨w.heap.size+1+1,0,none⟩) (by simp;omega) _).trans (belowK_b (w:=w) (Nat.le_refl _) _ D _ _ (by omega) hK' rfl rfl)⟩;simp[results,Tryz.f191,go_sem,X8]
 case stop=>
  rintro D c pre V hD ⟨r,hr⟩ ⟨⟨rfl,pre',x,he,hp,hx,bR1⟩,hV1⟩ pY
  gi_wp2
  refine vo ⟨by simp,.inl ⟨_,_,rfl,run_takeDeferred pY, ?_⟩⟩;have X8:=cell_kept bR1.cell (grownBy_putObj' _ D (.deferred none)) (fun r e=>by cases e;exact⟨_,pY,rfl⟩);refine⟨nI x.val, ?_,by rw[Ql (by rw[he]at hr;exact hr) hp hx];rfl,hV1.trans (belowK_b (w:=w) (Nat.le_refl _) V D _ _ (by omega) pY rfl rfl)⟩;simp[results,Tryz.f191,go_sem,X8]
end
section
section
variable {w w' : World} {g : Nat} {t : TypeId} {cs : Array Value}
theorem aj.zC (h:aj w g t cs){i:Nat}{u:Value}(hu:cs[i]?=some u):w.setCell ⟨g,i,none⟩ u=w:=by
  have e:(w.setCell ⟨g,i,none⟩ u).heap=w.heap:=by
    apply Array.ext_getElem?;intro j;by_cases hj:j=g
    · subst hj;have h1:=h.ak i u;unfold aj at h1 h;rw[h1,h]
      have:cs.setIfInBounds i u=cs:=by
        apply Array.ext_getElem?;intro k;rw[Array.getElem?_setIfInBounds];split
        · next hk => subst hk; split
                     · exact hu.symm
                     · next hlt=>rw[Array.getElem?_eq_none (by omega)]at hu;cases hu
        · rfl
      rw[this]
    · exact Below.heap_setCell w _ u j hj
  cases w;simp only[World.setCell]at e⊢;rw[e]
end
end
end Go.Proofs.YtgkeameopnpinaaGreatDoor
