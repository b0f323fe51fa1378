/- Traps that do not raise; rows of pointers. -/
import Derived.Test.YtnfjjbpmhcbelaaGreatDoorCoAD
import Derived.Test.YtnfjjbpmhcbelaaGreatDoorGaugeA
import Derived.Test.YtnfjjbpmhcbelaaGreatDoorAppAny
import Derived.Test.YtnfjjbpmhcbelaaGreatDoorSqM
namespace Go.Proofs.YtnfjjbpmhcbelaaGreatDoor
set_option maxRecDepth 100000
set_option maxHeartbeats 8000000
open Go.RowKit dI Go
section
attribute [local go_sem] Option.isNone_some Option.isNone_none
theorem jw (w:World):Calls Tryz.prog 109 #[.nilIface] w fun e w'=>e= .returned undef∧w=w':=by
 go_in;go_wp2;go_end0;exact⟨rfl,rfl⟩
theorem Dq (w:World):Calls Tryz.prog 80 #[.bool true] w fun e w'=>e= .returned undef∧w=w':=by
 go_in;go_wp2;go_end0;exact⟨rfl,rfl⟩
theorem uI (a:Int)(w:World):Calls Tryz.prog 148 #[.int .i64 a,.nilIface] w fun e w'=>e= .returned (.int .i64 a)∧w=w':=by
 have HR:=qd (jw w);go_in;go_wp2_with fail;refine(HR.out).mono ?_;rintro x w1 ⟨rfl,rfl⟩;go_wp2;go_ret;exact⟨rfl,rfl⟩
theorem YO (a:Int)(w:World):Calls Tryz.prog 187 #[.int .u64 a,.nilIface] w fun e w'=>e= .returned (.int .u64 a)∧w=w':=by
 have HR:=qd (jw w);go_in;go_wp2_with fail;refine(HR.out).mono ?_;rintro x w1 ⟨rfl,rfl⟩;go_wp2;go_ret;exact⟨rfl,rfl⟩
theorem YP (p:Option Addr)(w:World):Calls Tryz.prog 114 #[.pointer p,.nilIface] w fun e w'=>e= .returned (.pointer p)∧w=w':=by
 have HR:=qd (jw w);go_in;go_wp2_with fail;refine(HR.out).mono ?_;rintro x w1 ⟨rfl,rfl⟩;go_wp2;go_ret;exact⟨rfl,rfl⟩
theorem YQ (p:Option Addr)(w:World):Calls Tryz.prog 176 #[.pointer p,.nilIface] w fun e w'=>e= .returned (.pointer p)∧w=w':=by
 have HR:=qd (jw w);go_in;go_wp2_with fail;refine(HR.out).mono ?_;rintro x w1 ⟨rfl,rfl⟩;go_wp2;go_ret;exact⟨rfl,rfl⟩
theorem KF (p:Option Addr)(w:World):Calls Tryz.prog 178 #[.pointer p,.nilIface] w fun e w'=>e= .returned (.pointer p)∧w=w':=by
 have HR:=qd (jw w);go_in;go_wp2_with fail;refine(HR.out).mono ?_;rintro x w1 ⟨rfl,rfl⟩;go_wp2;go_ret;exact⟨rfl,rfl⟩
theorem Vv (p:Option Addr)(n c:Nat)(w:World):Calls Tryz.prog 305 #[.slice p n c,.nilIface] w fun e w'=>e= .returned (.slice p n c)∧w=w':=by
 have HR:=qd (jw w);go_in;go_wp2_with fail;refine(HR.out).mono ?_;rintro x w1 ⟨rfl,rfl⟩;go_wp2;go_ret;exact⟨rfl,rfl⟩
theorem YR (p:Option Addr)(w:World):Calls Tryz.prog 310 #[.pointer p,.nilIface] w fun e w'=>e= .returned (.pointer p)∧w=w':=by
 have HR:=qd (jw w);go_in;go_wp2_with fail;refine(HR.out).mono ?_;rintro x w1 ⟨rfl,rfl⟩;go_wp2;go_ret;exact⟨rfl,rfl⟩
theorem Vw (p:Option Addr)(w:World):Calls Tryz.prog 312 #[.pointer p,.nilIface] w fun e w'=>e= .returned (.pointer p)∧w=w':=by
 have HR:=qd (jw w);go_in;go_wp2_with fail;refine(HR.out).mono ?_;rintro x w1 ⟨rfl,rfl⟩;go_wp2;go_ret;exact⟨rfl,rfl⟩
structure fA (w:World)(rb:Nat)(ts:List Nat):Prop where
 lt:rb<w.heap.size
 at_:∀j t,ts[j]?=some t→w.cell? ⟨rb,j,none⟩=some (pQ t)
theorem fA.mod {S:List Nat}{w w':World}{rb:Nat}{ts:List Nat}(h:fA w rb ts)(hm:Mod S w w')(hs:rb∉S):fA w' rb ts:=
 ⟨Nat.lt_of_lt_of_le h.lt hm.size,fun j t ht=>(hm.cell_ (p:=⟨rb,j,none⟩) h.lt hs).trans (h.at_ j t ht)⟩
instance {w w':World}{rb:Nat}{ts:List Nat}:Md (fA w rb ts) w w' (fA w' rb ts) (fun S=>rb∉S):=⟨fun h hm hs=>h.mod hm hs⟩
def ptrs (ts:List Nat):List Value:=ts.map fun t=>pQ t
theorem fA.fD {w:World}{base n c:Nat}{e:TypeId}{A:Option Addr}{ts:List Nat}(h:w.ownsRow base e 1 (.slice A n c) n (ptrs ts))(hn:0<n):∃rb,A=some ⟨rb,0,none⟩∧base≤rb∧fA w rb ts∧ts.length=n:=by
 have hl:=h.1;rcases h.2 with hz|⟨g,cap,cur,hv,hb,hg,h1,h2,h3,h4⟩
 ·omega
 ·cases hv;refine⟨g,rfl,hb,⟨(Array.getElem?_eq_some_iff.1 hg).1,fun j t ht=> ?_⟩,by simpa[ptrs]using hl⟩;obtain⟨hj,_⟩:=List.getElem?_eq_some_iff.1 ht
  have hjn:j<n:=by simp[ptrs]at hl;omega
  have:=h.cellAt j (by omega);rw[this];unfold ptrs;rw[List.getElem?_map,ht];rfl
theorem Vx (rb cap:Nat)(ts:List Nat)(hn:ts.length≤2)(w:World)(h:fA w rb ts):
  Calls Tryz.prog 317 #[.slice (some ⟨rb,0,none⟩) ts.length cap,.pointer none] w fun e w'=>e= .returned (.int .i64 (-1))∧w=w':=by
 go_in;go_wp2;go_loop [5,8] (fun _ i=>∃k:Nat,k≤ts.length∧i= .int .i64 k) (fun _ i=>ts.length-(intOf i).toNat)
 case atStart=>exact⟨0,by omega,rfl⟩
 case round=>
  obtain⟨k,hk,rfl⟩:=hrel;by_cases hlt:k<ts.length
  ·have hlt':(k:Int)<(ts.length:Int):=by omega
   have hk0:(0:Int)≤(k:Int):=by omega
   have hc:=h.at_ k ts[k] (List.getElem?_eq_getElem hlt);generalize ts[k]=tk at hc
   have hnn:(Go.binOp .eql 184 (.pointer none) (.pointer (some (⟨tk,0,none⟩:Addr)))).run Tryz.prog w= .ok (.bool false) w:=by first|rfl|kernel_rfl|simp[Go.binOp,go_sem]
   go_wp2;go_round
   case rel=>exact⟨k+1,by omega,by go_num⟩
   case measure=>simp[intOf];omega
  ·have hlt':¬(k:Int)<(ts.length:Int):=by omega
   go_wp2;go_ret;exact⟨rfl,rfl⟩
theorem contains_nil (rb cap:Nat)(ts:List Nat)(hn:ts.length≤2)(w:World)(h:fA w rb ts):
  Calls Tryz.prog 315 #[.slice (some ⟨rb,0,none⟩) ts.length cap,.pointer none] w fun e w'=>e= .returned (.bool false)∧w=w':=by
 have HI:=qd (Vx rb cap ts hn w h);go_in;go_wp2_with fail;refine(HI.out).mono ?_;rintro x w1 ⟨rfl,rfl⟩;go_wp2;go_ret;exact⟨rfl,rfl⟩
end
section
variable {w : World} {cap depth eb next tb vb : Nat} {ts : List Nat}
def dB (k depth hash:Nat):Nat:=if k=1 then 0 else uQ hash depth
structure lS (w:World)(eb tb vb cap:Nat)(ts:List Nat)(depth next:Nat):Prop where
 blk:aj w eb 330 #[pQ tb,.slice (some ⟨vb,0,none⟩) ts.length cap,nI depth,nI next]
 row:fA w vb ts
theorem lS.mod {S:List Nat}{w':World}(h:lS w eb tb vb cap ts depth next)(hm:Mod S w w')(h1:eb∉S)(h2:vb∉S):lS w' eb tb vb cap ts depth next:=⟨h.blk.mod hm h1,h.row.mod hm h2⟩
instance {w w':World}{eb tb vb cap:Nat}{ts:List Nat}{depth next:Nat}:Md (lS w eb tb vb cap ts depth next) w w' (lS w' eb tb vb cap ts depth next) (fun S=>eb∉S∧vb∉S):=⟨fun h hm hs=>h.mod hm hs.1 hs.2⟩
theorem lS.lt (h:lS w eb tb vb cap ts depth next):eb<w.heap.size:=h.blk.lt
theorem lS.qc (h:lS w eb tb vb cap ts depth next):vb<w.heap.size:=h.row.lt
theorem QV {a b:Nat}(h:b≤a):(a:Int)-(b:Int)=((a-b:Nat):Int):=by omega
theorem KG (eb tb gb vb cap:Nat)(ts:List Nat)(depth next:Nat)(T:aC)(w:World)(h:lS w eb tb vb cap ts depth next)(ht:TabAt w tb gb T)(hle:next≤T.gs.length)(h64:T.gs.length≤64):
  Calls Tryz.prog 274 #[pQ eb] w fun e w'=>e= .returned (.int .i64 ((T.gs.length-next:Nat):Int))∧w.drew=w':=by
 obtain⟨ug,tc1,tc2⟩:=ht.cells;obtain⟨n,hn⟩:∃n,n=T.gs.length:=⟨_,rfl⟩;have HG:=qd (sN tb gb T w.drew (ht.below (Below.refl _ _).drew));rw[←hn]at HG hle h64⊢;unfold bU at HG;have HE:=qd (h);have ah:=qd (Mod.refl [] w);have rP:=qd h.blk;clear h ht;have ec:=rP.out.c4
 have hwr:IntKind.i64.wrap ((n:Int)-(next:Int))=((n-next:Nat):Int):=by rw[QV hle];rw[IntKind.wrap_i64];omega
 clear ug tc1 tc2 hn;go_in;go_upto_region 1 with fail;refine rT (fun(w':World)=>w'.cell? ⟨eb,0,none⟩=some (pQ tb)∧w'.cell? ⟨eb,3,none⟩=some (nI next)) [] ?_;have hHeld:=(⟨ec.1,ec.2.2.2⟩:_∧_);refine vW 0 rfl ?_;refine vW 1 rfl ?_;refine vW 2 rfl ?_;refine vT 3 rfl ?_;refine vW 5 rfl ?_;refine vW 6 rfl ?_;refine vW 7 rfl ?_;refine vT 8 rfl ?_;refine nT 4 rfl fun K hK=> ?_;go_simp;refine(HG.out).mono ?_;rintro y w1 ⟨rfl,rfl⟩;go_wp2_with fail;have hHeld:=(⟨ec.1,ec.2.2.2⟩:_∧_);refine kO hK ?_;clear hK K;refine vW 9 rfl ?_;refine vW 10 rfl ?_;refine aR (by kernel_rfl) ?_ _;go_wp2;go_ret;exact⟨rfl,rfl⟩
theorem Fa (eb tb vb cap:Nat)(ts:List Nat)(depth next hash t:Nat)(hk:1≤ts.length∧ts.length≤2)(hd:depth≤15)(h64:hash<18446744073709551616)(ht:ts[dB ts.length depth hash]?=some t)(w:World)(h:lS w eb tb vb cap ts depth next):
  Calls Tryz.prog 211 #[pQ eb,nU hash] w fun e w'=>e= .returned (bU t)∧Below w.heap.size w w':=by
 obtain⟨ec0,Vy,ec2,ec3⟩:=h.blk.c4;have hr:=h.row.at_ _ _ ht;have HT:=qd ht;unfold bU;clear h ht;by_cases h1:ts.length=1
 ·have hs:dB ts.length depth hash=0:=by unfold dB;rw[if_pos h1]
  rw[hs]at hr;rw[h1]at Vy;go_in;go_wp2;go_ret;exact⟨rfl,Below.refl _ _⟩
 ·have h2:ts.length=2:=by omega
  have hs:dB ts.length depth hash=uQ hash depth:=by unfold dB;rw[if_neg h1]
  rw[hs]at hr;rw[h2]at Vy;clear hs h1 HT;have hbl:uQ hash depth<2:=Nat.mod_lt _ (by omega);have HBt:=qd (UH hash depth h64 hd w.drew);generalize uQ hash depth=sd at*
  have hsd:(sd:Int)<2:=by omega
  have afr:(0:Int)≤(sd:Int):=by omega
  have NN:=qd (uI (sd:Int) w.drew);go_in;go_upto_region 3 with fail;refine rT (fun(w':World)=>w'.cell? ⟨eb,1,none⟩=some (.slice (some ⟨vb,0,none⟩) 2 cap)∧w'.cell? ⟨eb,2,none⟩=some (nI depth)∧w'.cell? ⟨vb,sd,none⟩=some (pQ t)) [] ?_;have hHeld:=(⟨Vy,ec2,hr⟩:_∧_∧_);refine vW 0 rfl ?_;refine vW 1 rfl ?_;refine vW 2 rfl ?_;refine vT 3 rfl ?_;refine vW 4 rfl ?_;refine vW 5 rfl ?_;refine vW 6 rfl ?_;refine vW 7 rfl ?_;refine vT 8 rfl ?_;refine nT 9 rfl fun K hK=> ?_;go_simp;refine(HBt.out).mono ?_;rintro y w1 ⟨rfl,rfl⟩;go_wp2_with fail;have hHeld:=(⟨Vy,ec2,hr⟩:_∧_∧_);refine kO hK ?_;clear hK K;refine vW 10 rfl ?_;refine vW 11 rfl ?_;refine nT 12 rfl fun K hK=> ?_;go_simp;refine(NN.out).mono ?_;rintro y w1 ⟨rfl,rfl⟩;go_wp2_with fail;have hHeld:=(⟨Vy,ec2,hr⟩:_∧_∧_);refine kO hK ?_;clear hK K;refine vW 13 rfl ?_;refine vT 14 rfl ?_;refine vW 15 rfl ?_;refine aR (by kernel_rfl) ?_ _;go_wp2;go_ret;exact⟨rfl,(Below.refl _ _).drew⟩
end
section
variable {j k : Nat} {e : av} {bs : List (Nat × Nat)} {S : List Nat} {w w' : World} {Ts : List aC}
def Dr (T:aC)(e:av):aC:=match (aJ T.gs e.key e.hash).2.1 with
 |some x=>jC T x.1 x.2 e
 |none=>T
structure NP (T:aC)(e:av):Prop where
 ok:mg T
 h64:e.hash<18446744073709551616
 none_:(aJ T.gs e.key e.hash).1=none
 free:∃i s,(aJ T.gs e.key e.hash).2.1=some (i,s)
 room:T.live+T.bW+1≤7*(T.gs.length:Int)
def noT:aC:=⟨[],0,0⟩
def uJ (k d:Nat)(st:bL×List aC)(e:av):bL×List aC:=
 (st.1.add cV (aJ (st.2.getD (dB k d e.hash) noT).gs e.key e.hash).2.2,st.2.set (dB k d e.hash) (Dr (st.2.getD (dB k d e.hash) noT) e))
def eD (k d:Nat)(st:bL×List aC)(es:List av):bL×List aC:=es.foldl (uJ k d) st
def Fits (k d:Nat):List aC→List av→Prop
 |_,[]=>True
 |Ts,e::es=>(∃T,Ts[dB k d e.hash]?=some T∧NP T e)∧Fits k d (Ts.set (dB k d e.hash) (Dr (Ts.getD (dB k d e.hash) noT) e)) es
theorem SQ (k d:Nat)(st:bL×List aC){es:List av}(h:es[j]?=some e):eD k d st (es.take (j+1))=uJ k d (eD k d st (es.take j)) e:=by
 unfold eD;rw[rO h,List.foldl_append];rfl
theorem QW {d:Nat}:∀{es:List av} {x:bL} {Ts:List aC} {j:Nat} {e:av},Fits k d Ts es→es[j]?=some e→∃T,(eD k d (x,Ts) (es.take j)).2[dB k d e.hash]?=some T∧NP T e
 | [],_,_,_,_,_,h=>by simp at h
 |e0::es,x,Ts,0,e,hf,h=>by
  simp at h;subst h;exact hf.1
 |e0::es,x,Ts,j+1,e,hf,h=>by
  rw[List.getElem?_cons_succ]at h;have:=QW (x:=x.add cV (aJ (Ts.getD (dB k d e0.hash) noT).gs e0.key e0.hash).2.2) hf.2 h;exact this
structure iw (w:World)(bs:List (Nat×Nat))(Ts:List aC):Prop where
 len:bs.length=Ts.length
 at_:∀(j:Nat) (b:Nat×Nat) (T:aC),bs[j]?=some b→Ts[j]?=some T→TabAt w b.1 b.2 T
 ne:∀(i j:Nat) (b c:Nat×Nat),bs[i]?=some b→bs[j]?=some c→i≠j→b.1≠c.1∧b.1≠c.2∧b.2≠c.1∧b.2≠c.2
def fM (bs:List (Nat×Nat)):List Nat:=bs.flatMap fun b=> [b.1,b.2]
theorem dM:k∈fM bs↔∃b∈bs,k=b.1∨k=b.2:=by simp[fM]
theorem iw.mod (h:iw w bs Ts)(hm:Mod S w w')(hs:∀b∈bs,b.1∉S∧b.2∉S):iw w' bs Ts:=
 ⟨h.len,fun j b T hb hT=>(h.at_ j b T hb hT).mod hm (hs b (List.mem_of_getElem? hb)).1 (hs b (List.mem_of_getElem? hb)).2,h.ne⟩
theorem iw.ak (h:iw w bs Ts){b:Nat×Nat}{T':aC}(hb:bs[j]?=some b)(hT:TabAt w' b.1 b.2 T')(hm:Mod S w w')(hs:∀k∈S,k=b.1∨k=b.2∨∀c∈bs,k≠c.1∧k≠c.2):iw w' bs (Ts.set j T'):=by
 refine⟨by rw[List.length_set];exact h.len,fun i c T hc kD=> ?_,h.ne⟩;rw[List.getElem?_set]at kD;by_cases hij:j=i
 ·subst hij;rw[hb]at hc;cases hc;obtain⟨hlt,_⟩:=List.getElem?_eq_some_iff.1 hb;rw[if_pos rfl,if_pos (by rw[←h.len];exact hlt)]at kD;cases kD;exact hT
 ·rw[if_neg hij]at kD;have hne:=h.ne j i b c hb hc hij;have hcm:=List.mem_of_getElem? hc;refine(h.at_ i c T hc kD).mod hm (fun hk=> ?_) (fun hk=> ?_)
  ·rcases hs _ hk with e|e|e
   ·exact hne.1 e.symm
   ·exact hne.2.2.1 e.symm
   ·exact(e c hcm).1 rfl
  ·rcases hs _ hk with e|e|e
   ·exact hne.2.1 e.symm
   ·exact hne.2.2.2 e.symm
   ·exact(e c hcm).2 rfl
end
theorem SS {W0:World}{E:Nat→Addr}(tb gb:Nat)(T:aC)(P:MP)(x:bL)(c:bq)(g:Nat)(hg:g<T.gs.length)(hok:mg T)(w:World)(h:TabAt w tb gb T)(hM:aN w P x)(hE:Env W0 E w)(hmt:P.mb≠tb)(gH:P.mb≠gb)(hb0:W0.heap.size≤P.mb)(hb1:W0.heap.size≤tb)(hb2:W0.heap.size≤gb):
  Calls Tryz.prog 306 #[bU tb,aG (some ⟨P.mb,P.mo,none⟩) c,nI g] w fun e w'=>∃A cc,e= .returned (.tuple #[.slice A (bT (T.gs.getD g [])).length cc,.nilIface])∧
   w'.ownsRow w.heap.size 166 3 (.slice A (bT (T.gs.getD g [])).length cc) (bT (T.gs.getD g [])).length ((bT (T.gs.getD g [])).flatMap aV)∧TabAt w' tb gb (takeN T g 8)∧aN w' P (x.add c 1)∧Mod [P.mb,tb,gb] w w':=by
 have hB:=(Below.refl w.heap.size w).alloc (Nat.le_refl _) (.cells #[.pointer (some ⟨P.mb,P.mo,none⟩),.int .i64 c.p,.int .i64 c.v,.int .i64 c.u] 163);have hL:=aj.new w 163 #[.pointer (some ⟨P.mb,P.mo,none⟩),.int .i64 c.p,.int .i64 c.v,.int .i64 c.u];obtain⟨W,hW⟩:∃W,W=w.alloc (.cells #[.pointer (some ⟨P.mb,P.mo,none⟩),.int .i64 c.p,.int .i64 c.v,.int .i64 c.u] 163):=⟨_,rfl⟩;rw[←hW]at hB hL;obtain⟨Ko,Kq,Kr,Kt⟩:=hL.c4;have hml:=hM.lt;have htl:=h.aT;have hgl:=h.aU;have hB0:=hE.size;have HW:=qd hW
 have hg0:(g:Int)<(T.gs.length:Int):=by omega
 have uf:=qd (Im tb gb T P.mb P.mt P.pre P.post P.mo x.all x.last P.m c g hg W (h.below hB) (hM.below hB) hmt gH);have Fb:=qd hok;unfold bU aG bC at uf;unfold bU aG;have HT:=qd (h.below hB);have ay:=qd (hE.next hB);have ah:=qd (Mod.of_below hB [P.mb,tb,gb]);clear hW hB h hM hL hE hok;generalize hGn:T.gs.getD g []=G;go_in;go_upto_region 1 with fail;rw[←HW.out];go_wp2_with fail;refine(uf.out).mono ?_;rintro x w1 ⟨rfl,hM1,hm⟩;clear Ko Kq Kr Kt;replace HT:=qM hm HT;replace ay:=qM hm ay;replace ah:=qU ah hm;clear hm;have HM:=qd (show aN w1 P (x.add c 1)from hM1);clear hM1;go_upto_region 4 with fail;have q1:=qJ HT.out.aT (qJ HT.out.aU (qJ HM.out.lt ah.out.size));refine dF 201 #[.pointer (some ⟨gb,g*25,none⟩)] ?_;rintro w2 ⟨hnew,hb⟩;obtain⟨vb,hvb⟩:∃vb,vb=w1.heap.size:=⟨_,rfl⟩;rw[←hvb]at hnew⊢
 replace hvb:w1.heap.size≤vb:=by omega
 replace HT:=qB hb HT;replace ay:=qB hb ay;replace HM:=qB hb HM;replace ah:=qT ah hb;have HV:=qd (hnew);clear hnew hb;have z5:=ah.out.size;have Ag:=HV.out.cell 0;simp only[List.getElem?_toArray,List.getElem?_cons_zero]at Ag;have bQ:=qd (EX gb 246 _ _ (g*25) _ w2 (HT.out.group g hg) ay.out.tz);rw[hGn]at bQ;unfold bC at bQ;go_wp2_with fail;refine(bQ.out).mono ?_;rintro x w3 ⟨A,cc,rfl,hO,hb⟩;clear Ag;replace HT:=qB hb HT;replace ay:=qB hb ay;replace HM:=qB hb HM;replace HV:=qB hb HV;replace ah:=qT ah hb;clear hb;have hwl:=ah.out.size;have HO:=qd (hO);clear hO;have q6:=qJ HT.out.aT (qJ HT.out.aU (qJ HM.out.lt HV.out.lt));clear HW;go_wp2;go_loopw [11,12,13,26] (fun _ _ _ i wr=>∃k:Nat,k≤8∧i= .int .i64 k∧TabAt wr tb gb (takeN T g k)∧aN wr P (x.add c 1)∧Env W0 E wr∧wr.ownsRow w2.heap.size 166 3 (.slice A (bT G).length cc) (bT G).length ((bT G).flatMap aV)∧aj wr vb 201 #[.pointer (some ⟨gb,g*25,none⟩)]∧Mod [P.mb,tb,gb] w wr) (fun _ _ _ i _=>8-(intOf i).toNat)
 case atStart=>exact⟨0,by omega,rfl,HT.out,HM.out,ay.out,HO.out,HV.out,ah.out⟩
 case round=>
  clear HT HM ay HO HV ah;obtain⟨k,hk,rfl,hT,hM,hE,hO,hV,hm⟩:=hrel;by_cases hlt:k<8
  ·have hlt':(k:Int)<8:=by omega
   have HT:=qd (hT);have HM:=qd (hM);have ay:=qd (hE);have HO:=qd (hO);have HV:=qd (hV);have ah:=qd (hm);clear hT hM hE hO hV hm
   have hgk:g<(takeN T g k).gs.length:=by rw[sQ];exact hg
   have HG:=qd (HT.out.group g hgk);have HOe:=qd (Fb.out.tkN g k);have Ag:=HV.out.cell 0;simp only[List.getElem?_toArray,List.getElem?_cons_zero]at Ag
   cases hsl:aF (takeN T g k).gs g k with
   |full e=>
    have jP:=qd (EW gb 246 _ _ (g*25) _ wr HG.out k hlt e (by unfold aF at hsl;exact hsl));unfold bC aP at jP;clear HG;go_wp2_with fail;refine(jP.out).mono ?_;rintro x w4 ⟨rfl,hb⟩;clear Ag;replace HT:=qB hb HT;replace HM:=qB hb HM;replace ay:=qB hb ay;replace HO:=qB hb HO;replace HV:=qB hb HV;replace ah:=qT ah hb;clear hb jP;go_upto_region 10 with fail;have q1:=qJ HT.out.aT (qJ HT.out.aU (qJ HM.out.lt (qJ HV.out.lt ah.out.size)));refine dF 166 #[nU e.key,nU e.val,nU e.hash] ?_;rintro w5 ⟨hnew,hb⟩;replace HT:=qB hb HT;replace HM:=qB hb HM;replace ay:=qB hb ay;replace HO:=qB hb HO;replace HV:=qB hb HV;replace ah:=qT ah hb;have HD:=qd (hnew);clear hnew hb;have Ag:=HV.out.cell 0;simp only[List.getElem?_toArray,List.getElem?_cons_zero]at Ag;have wN:=qd (EY tb gb (takeN T g k) g k hgk hlt e hsl HOe.out.small w5 HT.out);unfold bU Ic at wN;clear HT HD;go_wp2_with fail;refine(wN.out).mono ?_;rintro x w6 ⟨rfl,hT6,hm⟩;clear Ag;replace HM:=qM hm HM;replace ay:=qM hm ay;replace HO:=qM hm HO;replace HV:=qM hm HV;replace ah:=qU ah hm;clear hm;have HT:=qd (hT6);clear hT6;have j4:=qd (show takeN T g (k+1)=iM (takeN T g k) g k from by show fQ _ _ _=_;unfold fQ;rw[hsl];rfl);clear hsl;go_wp2;go_roundw
    case rel=>exact⟨k+1,by omega,by go_num,by rw[j4.out];exact HT.out,HM.out,ay.out,HO.out,HV.out,ah.out⟩
    case measure=>simp[intOf];omega
   |empty=>
    have jP:=qd (Kj gb 246 _ _ (g*25) _ wr HG.out k hlt (by unfold aF at hsl;rw[hsl];rfl) E (ay.out.errs.at_ 5 (by omega) (by omega)));unfold bC aP at jP;clear HG;go_wp2_with fail;refine(jP.out).mono ?_;rintro x w4 ⟨rfl,hb⟩;clear Ag;replace HT:=qB hb HT;replace HM:=qB hb HM;replace ay:=qB hb ay;replace HO:=qB hb HO;replace HV:=qB hb HV;replace ah:=qT ah hb;clear hb jP;have j4:=qd (show takeN T g (k+1)=takeN T g k from by show fQ _ _ _=_;unfold fQ;rw[hsl];rfl);clear hsl;go_upto_region 11 with fail;have q1:=qJ HT.out.aT (qJ HT.out.aU (qJ HM.out.lt (qJ HV.out.lt ah.out.size)));refine dF 166 #[.int .u64 0,.int .u64 0,.int .u64 0] ?_;rintro w5 ⟨hnew,hb⟩;replace HT:=qB hb HT;replace HM:=qB hb HM;replace ay:=qB hb ay;replace HO:=qB hb HO;replace HV:=qB hb HV;replace ah:=qT ah hb;have HD:=qd (hnew);clear hnew hb;go_wp2;go_roundw
    case rel=>exact⟨k+1,by omega,by go_num,by rw[j4.out];exact HT.out,HM.out,ay.out,HO.out,HV.out,ah.out⟩
    case measure=>simp[intOf];omega
   |qm=>
    have jP:=qd (Kj gb 246 _ _ (g*25) _ wr HG.out k hlt (by unfold aF at hsl;rw[hsl];rfl) E (ay.out.errs.at_ 5 (by omega) (by omega)));unfold bC aP at jP;clear HG;go_wp2_with fail;refine(jP.out).mono ?_;rintro x w4 ⟨rfl,hb⟩;clear Ag;replace HT:=qB hb HT;replace HM:=qB hb HM;replace ay:=qB hb ay;replace HO:=qB hb HO;replace HV:=qB hb HV;replace ah:=qT ah hb;clear hb jP;have j4:=qd (show takeN T g (k+1)=takeN T g k from by show fQ _ _ _=_;unfold fQ;rw[hsl];rfl);clear hsl;go_upto_region 11 with fail;have q1:=qJ HT.out.aT (qJ HT.out.aU (qJ HM.out.lt (qJ HV.out.lt ah.out.size)));refine dF 166 #[.int .u64 0,.int .u64 0,.int .u64 0] ?_;rintro w5 ⟨hnew,hb⟩;replace HT:=qB hb HT;replace HM:=qB hb HM;replace ay:=qB hb ay;replace HO:=qB hb HO;replace HV:=qB hb HV;replace ah:=qT ah hb;have HD:=qd (hnew);clear hnew hb;go_wp2;go_roundw
    case rel=>exact⟨k+1,by omega,by go_num,by rw[j4.out];exact HT.out,HM.out,ay.out,HO.out,HV.out,ah.out⟩
    case measure=>simp[intOf];omega
  ·obtain rfl:k=8:=by omega
   have HF:=qd (And.intro hT (And.intro hM (And.intro (qR hO (show w.heap.size≤w2.heap.size by omega)) hm)));clear hT hM hE hO hV hm
   have hlt':¬((8:Nat):Int)<8:=by omega
   go_wp2;refine bodyPost_ret (v:= .tuple #[.slice A (bT G).length cc,.nilIface]) (by simp[results,Tryz.results306,go_sem]) rfl ⟨A,cc,rfl,HF.out.2.2.1,HF.out.1,HF.out.2.1,HF.out.2.2.2⟩
theorem Vz {W0:World}{E:Nat→Addr}(eb tb gb vb cap:Nat)(depth next:Nat)(bs:List (Nat×Nat))(T:aC)(Ts:List aC)(P:MP)(x:bL)(hk:1≤bs.length∧bs.length≤2)(hd:depth≤15)(w:World)
  (h:lS w eb tb vb cap (bs.map Prod.fst) depth next) (ht:TabAt w tb gb T) (hok:mg T) (hn:next<T.gs.length) (hts:iw w bs Ts) (hfit:Fits bs.length depth Ts (bT (T.gs.getD next [])))
  (hM:aN w P x) (hE:Env W0 E w) (hbd:∀b∈bs,b.1∉[P.mb,eb,vb,tb,gb]∧b.2∉[P.mb,eb,vb,tb,gb]) (hmd:P.mb∉[eb,vb,tb,gb]) (hed:eb∉[vb,tb,gb]) (hvd:vb∉[tb,gb])
  (hb0:W0.heap.size≤P.mb) (hb1:W0.heap.size≤tb) (hb2:W0.heap.size≤gb) (_:W0.heap.size≤eb) (hb4:∀b∈bs,W0.heap.size≤b.1∧W0.heap.size≤b.2):
  Calls Tryz.prog 302 #[pQ eb,.pointer (some ⟨P.mb,P.mo,none⟩)] w fun e w'=>e= .returned (.bool true)∧lS w' eb tb vb cap (bs.map Prod.fst) depth (next+1)∧TabAt w' tb gb (takeN T next 8)∧
   iw w' bs (eD bs.length depth ((x.add (cU 1) 1).add cV 1,Ts) (bT (T.gs.getD next []))).2∧aN w' P (eD bs.length depth ((x.add (cU 1) 1).add cV 1,Ts) (bT (T.gs.getD next []))).1∧Mod (P.mb::eb::tb::gb::fM bs) w w':=by
 simp only[List.mem_cons,List.not_mem_nil,or_false,not_or]at hmd hed hvd hbd;have hml:=hM.lt;have hB0:=hE.size;have jm:=qd (KG eb tb gb vb cap _ depth next T w h ht (by omega) hok.pow.le);have hle:=hok.pow.le
 obtain⟨dn,hdn⟩:∃dn,dn=T.gs.length-next:=⟨_,rfl⟩
 rw[←hdn]at jm
 have hd0:¬(dn:Int)=0:=by omega
 have hd1:¬dn=0:=by omega
 obtain⟨bn,hbn⟩:∃bn,bn=(bs.map Prod.fst).length:=⟨_,rfl⟩;have hbl:(bs.map Prod.fst).length=bs.length:=List.length_map ..;have Fb:=qd hok
 have hbs:∀b∈bs,b.1<w.heap.size∧b.2<w.heap.size:=fun b hb=>by
  obtain⟨j,hj⟩:=List.getElem?_of_mem hb;obtain⟨hlt,_⟩:=List.getElem?_eq_some_iff.1 hj
  have hlt2:j<Ts.length:=by rw[←hts.len];exact hlt
  have:=hts.at_ j b Ts[j] hj (List.getElem?_eq_getElem hlt2);exact⟨this.aT,this.aU⟩
 obtain⟨es,hes⟩:∃es,es=bT (T.gs.getD next []):=⟨_,rfl⟩;rw[←hes]at hfit⊢;have HEs:=qd hes;clear hes;have mJ:=qd hbd;have HV:=qd (h);have HT:=qd (ht);have dJ:=qd (hts);have ay:=qd (hE);have HM:=qd (hM);have ah:=qd (Mod.refl (P.mb::eb::tb::gb::fM bs) w);have HF:=qd hfit;clear h ht hts hE hM hok hdn hfit;have q1:=qJ HV.out.lt (qJ HV.out.qc (qJ HT.out.aT (qJ HT.out.aU HM.out.lt)));go_in;go_upto_region 1 with fail;go_wp2_with fail;refine(jm.out).mono ?_;rintro y w1 ⟨rfl,hw1⟩;have hm:Mod [] w w1:=hw1▸Mod.drewN [] w 1;clear hw1 jm;replace HV:=qM hm HV;replace HT:=qM hm HT;replace dJ:=qd (dJ.out.mod hm (fun b hb=>by have hh:=hbd b hb;simp<;>omega));replace ay:=qM hm ay;replace HM:=qM hm HM;have z6:=(hm).size;replace ah:=qU ah hm;clear hm;have HU:=qd (sK P.mb P.mt P.pre P.post P.mo _ _ P.m 1 (by omega) w1 HM.out);clear HM;go_wp2_with fail;refine(HU.out).mono ?_;rintro x w2 ⟨rfl,hM2,hm⟩;replace HV:=qM hm HV;replace HT:=qM hm HT;replace dJ:=qd (dJ.out.mod hm (fun b hb=>by have hh:=hbd b hb;simp<;>omega));replace ay:=qM hm ay;have z7:=(hm).size;replace ah:=qU ah hm;clear hm;have HM:=qd (show aN w2 P (x.add (cU 1) 1)from hM2);clear hM2 HU;go_upto_region 4 with fail;have hEb:=HV.out.blk;rw[←hbn]at hEb;have rP:=qd (hEb);clear hEb;have ec:=rP.out.c4;refine rT (fun(w':World)=>w'.cell? ⟨eb,0,none⟩=some (pQ tb)∧w'.cell? ⟨eb,3,none⟩=some (nI next)) [] ?_;have hHeld:=(⟨ec.1,ec.2.2.2⟩:_∧_);refine vW 0 rfl ?_;refine vW 1 rfl ?_;refine vW 2 rfl ?_;refine vT 3 rfl ?_;refine vW 4 rfl ?_
 refine vW 6 rfl ?_;refine vW 7 rfl ?_;refine vW 8 rfl ?_;refine vT 9 rfl ?_;refine vW 15 rfl ?_;refine nT 5 rfl fun K hK=> ?_;go_simp;refine(wm (some ⟨P.mb,P.mo,none⟩) _).mono ?_;rintro y w3 ⟨rfl,hb⟩;replace hb:Below w2.heap.size w2 w3:=bP hb (Below.refl _ _).drew;unfold aG;clear ec;replace HV:=qB hb HV;replace HT:=qB hb HT;replace dJ:=qd (dJ.out.mod (Mod.of_below hb []) (by simp));replace ay:=qB hb ay;replace HM:=qB hb HM;replace rP:=qB hb rP;have z8:=(hb).size;replace ah:=qT ah hb;clear hb;have ec:=rP.out.c4;go_wp2_with fail;have hHeld:=(⟨ec.1,ec.2.2.2⟩:_∧_);refine kO hK ?_;clear hK K;refine nT 10 rfl fun K hK=> ?_;go_simp;have vI:=qd (SS tb gb T P (x.add (cU 1) 1) cV next hn Fb.out w3 HT.out HM.out ay.out (by omega) (by omega) hb0 hb1 hb2);unfold bU aG cV at vI;refine(vI.out).mono ?_;rintro y w4 ⟨A,cc,rfl,xV,QL,Ih,hm⟩;clear vI HT HM ec;replace HV:=qM hm HV;replace dJ:=qd (dJ.out.mod hm (fun b hb=>by have hh:=hbd b hb;simp<;>omega));replace ay:=qM hm ay;replace rP:=qM hm rP;have z9:=(hm).size;replace ah:=qU ah hm;have HT:=qd (QL);have HM:=qd (Ih);have gG:=qd (xV);clear QL Ih xV hm;have ec:=rP.out.c4;rw[←HEs.out]at gG⊢;go_wp2_with fail;have hHeld:=(⟨ec.1,ec.2.2.2⟩:_∧_);refine kO hK ?_;clear hK K;refine vW 11 rfl ?_;refine vW 12 rfl ?_;refine nT 13 rfl fun K hK=> ?_;go_simp;refine(Vv A es.length cc w4).mono ?_;rintro y w5 ⟨rfl,rfl⟩;go_wp2_with fail;have hHeld:=(⟨ec.1,ec.2.2.2⟩:_∧_);refine kO hK ?_;clear hK K;refine vW 14 rfl ?_;refine aR (by kernel_rfl) ?_ _
 have ad1:es.length≤8:=by have h1:=yO (T.gs.getD next []);have h2:=Fb.out.wide.at_ hn;rw[HEs.out];omega
 clear hd0 hd1;go_wp2;clear ec rP;obtain⟨st0,NQ⟩:∃st0:bL×List aC,st0=((x.add (cU 1) 1).add cV 1,Ts):=⟨_,rfl⟩;go_loopw [6,7,8,29] (fun _ _ _ i wr=>∃j:Nat,j≤es.length∧i= .int .i64 j∧lS wr eb tb vb cap (bs.map Prod.fst) depth next∧TabAt wr tb gb (takeN T next 8)∧iw wr bs (eD bs.length depth st0 (es.take j)).2∧aN wr P (eD bs.length depth st0 (es.take j)).1∧Env W0 E wr∧wr.ownsRow w3.heap.size 166 3 (.slice A es.length cc) es.length (es.flatMap aV)∧Mod (P.mb::eb::tb::gb::fM bs) w wr) (fun _ _ _ i _=>es.length-(intOf i).toNat)
 case atStart=>exact⟨0,by omega,rfl,HV.out,HT.out,by rw[NQ];exact dJ.out,by rw[NQ];exact HM.out,ay.out,gG.out,ah.out⟩
 case round=>
  clear HV HT dJ HM ay gG ah;obtain⟨j,hj,rfl,hV,hT,hTs,hM,hE,xV,hm⟩:=hrel;by_cases hlt:j<es.length
  ·have hlt':(j:Int)<(es.length:Int):=by omega
   have hj0:(0:Int)≤(j:Int):=by omega
   obtain⟨e,he⟩:∃e,es[j]?=some e:=⟨_,List.getElem?_eq_getElem hlt⟩;obtain⟨g,rfl,hgb,k0,k1,k2,hjn⟩:=KE xV he;have dZ:=qd (SQ bs.length depth st0 he);obtain⟨T1,hT1,hcp⟩:=QW (x:=(x.add (cU 1) 1).add cV 1) HF.out he;rw[←NQ]at hT1;clear he hjn;obtain⟨st,hst⟩:∃st,st=eD bs.length depth st0 (es.take j):=⟨_,rfl⟩;rw[←hst]at hTs hM dZ hT1;clear hst;obtain⟨sd,hsd⟩:∃sd,sd=dB bs.length depth e.hash:=⟨_,rfl⟩;have HSd:=qd hsd;rw[←hsd]at hT1;clear hsd;obtain⟨b,hb⟩:∃b,bs[sd]?=some b:=⟨_,List.getElem?_eq_getElem (by rw[hTs.len];exact(List.getElem?_eq_some_iff.1 hT1).1)⟩;have oV:=List.mem_of_getElem? hb;have hbb:=hbd b oV;have afs:=hbs b oV;have aft:=hb4 b oV;have Fe:=qd hb;have HT1:=qd hT1;have kF:=qd hcp;clear hb hT1 hcp;have HV:=qd (hV);have HT:=qd (hT);have dJ:=qd (hTs);have HM:=qd (hM);have ay:=qd (hE);have gG:=qd (xV);have ah:=qd (hm);clear hV hT hTs hM hE xV hm;have QX:=qd (fun(V:World) (hV:lS V eb tb vb cap (bs.map Prod.fst) depth next)=>Fa eb tb vb cap (bs.map Prod.fst) depth next e.hash b.1 (by rw[List.length_map];exact hk) hd kF.out.h64 (by rw[List.length_map,←HSd.out,List.getElem?_map,Fe.out];rfl) V hV);unfold bU at QX;go_upto_region 7 with fail;have q1:=qJ HV.out.lt (qJ HV.out.qc (qJ HT.out.aT (qJ HT.out.aU (qJ HM.out.lt ah.out.size))));refine dF 166 #[nU e.key,nU e.val,nU e.hash] ?_;rintro w6 ⟨hnew,hb⟩;obtain⟨xb,hxb⟩:∃xb,xb=wr.heap.size:=⟨_,rfl⟩;rw[←hxb]at hnew⊢
   replace hxb:wr.heap.size≤xb:=by omega
   clear k0 k1 k2;replace HV:=qB hb HV;replace HT:=qB hb HT;replace dJ:=qd (dJ.out.mod (Mod.of_below hb []) (by simp));replace HM:=qB hb HM;replace ay:=qB hb ay;replace gG:=qB hb gG;have z7:=(hb).size;replace ah:=qT ah hb;have HX:=qd (hnew);clear hnew hb;have xc:=HX.out.c3;obtain⟨i,s,hfr⟩:=kF.out.free;have wK:=qd hfr;clear hfr;refine rT (fun(w':World)=>w'.cell? ⟨xb,0,none⟩=some (nU e.key)∧w'.cell? ⟨xb,1,none⟩=some (nU e.val)∧w'.cell? ⟨xb,2,none⟩=some (nU e.hash)) [] ?_;have hHeld:=(⟨xc.1,xc.2.1,xc.2.2⟩:_∧_∧_);refine vW 0 rfl ?_;refine vW 1 rfl ?_;refine vT 2 rfl ?_;refine vW 4 rfl ?_;refine vT 6 rfl ?_;refine nT 3 rfl fun K hK=> ?_;go_simp;refine(QX.out _ (HV.out.mod (Mod.drewN [] w6 1) (by simp) (by simp))).mono ?_;rintro y w7 ⟨rfl,hb⟩;replace hb:Below w6.heap.size w6 w7:=bP hb (Below.refl _ _).drew;clear xc;replace HV:=qB hb HV;replace HT:=qB hb HT;replace dJ:=qd (dJ.out.mod (Mod.of_below hb []) (by simp));replace HM:=qB hb HM;replace ay:=qB hb ay;replace gG:=qB hb gG;replace HX:=qB hb HX;have z8:=(hb).size;replace ah:=qT ah hb;clear hb;have xc:=HX.out.c3;go_wp2_with fail;have hHeld:=(⟨xc.1,xc.2.1,xc.2.2⟩:_∧_∧_);refine kO hK ?_;clear hK K;refine nT 5 rfl fun K hK=> ?_;go_simp;refine(wm (some ⟨P.mb,P.mo,none⟩) _).mono ?_;rintro y w8 ⟨rfl,hb⟩;unfold aG;clear xc;replace HV:=qB hb HV;replace HT:=qB hb HT;replace dJ:=qd (dJ.out.mod (Mod.of_below hb []) (by simp));replace HM:=qB hb HM;replace ay:=qB hb ay;replace gG:=qB hb gG;replace HX:=qB hb HX;have z9:=(hb).size
   replace ah:=qT ah hb;clear hb;have xc:=HX.out.c3;go_wp2_with fail;have hHeld:=(⟨xc.1,xc.2.1,xc.2.2⟩:_∧_∧_);refine kO hK ?_;clear hK K;refine nT 7 rfl fun K hK=> ?_;go_simp;have yX:=qd (LG b.1 b.2 T1 P.mb P.mt P.pre P.post P.mo st.1.all st.1.last P.m cV e w8 (dJ.out.at_ sd b T1 Fe.out HT1.out) kF.out.ok.pow kF.out.h64 HM.out (by omega) (by omega) ay.out.tz (by have:=ay.out.NI;omega) kF.out.none_ i s wK.out kF.out.ok.small kF.out.room);unfold bU aG aP cV at yX;refine(yX.out).mono ?_;rintro y w9 ⟨rfl,hT9,hM9,hm⟩;clear yX HM;have ab9:=dJ.out.ak Fe.out hT9 hm (by intro q hq;simp at hq;rcases hq with rfl|rfl|rfl;exact .inr (.inr (fun c hc=>by have:=hbd c hc;omega));exact .inl rfl;exact .inr (.inl rfl));clear dJ hT9;have hm0:Mod (P.mb::eb::tb::gb::fM bs) w8 w9:=hm.more (by intro q hq;simp at hq;rcases hq with rfl|rfl|rfl;simp;simp[dM];exact .inr (.inr (.inr (.inr ⟨_,_,oV,.inl rfl⟩)));simp[dM];exact .inr (.inr (.inr (.inr ⟨_,_,oV,.inr rfl⟩))));have VA:=ah;clear ah;have ah:=qd (Mod.refl [P.mb,b.1,b.2] w8);clear xc;replace HV:=qM hm HV;replace HT:=qM hm HT;replace ay:=qM hm ay;replace gG:=qM hm gG;replace HX:=qM hm HX;have z10:=(hm).size;replace ah:=qU ah hm;clear ah;have ah:=qd (VA.out.then hm0);clear VA hm0 hm;have dJ:=qd (ab9);have HM:=qd (show aN w9 P (st.1.add cV (aJ T1.gs e.key e.hash).2.2)from hM9);clear ab9 hM9;have xc:=HX.out.c3;go_wp2_with fail;have hHeld:=(⟨xc.1,xc.2.1,xc.2.2⟩:_∧_∧_);refine kO hK ?_;clear hK K;refine vW 8 rfl ?_;refine vW 9 rfl ?_;refine vW 10 rfl ?_
   refine vW 11 rfl ?_;refine vW 12 rfl ?_;refine aR (by kernel_rfl) ?_ _
   have hgd:st.2.getD sd noT=T1:=by rw[List.getD_eq_getElem?_getD,HT1.out];rfl
   have j4:=qd (show eD bs.length depth st0 (es.take (j+1))=(st.1.add cV (aJ T1.gs e.key e.hash).2.2,st.2.set sd (jC T1 i s e))from by rw[dZ.out];unfold uJ;rw[←HSd.out,hgd];unfold Dr;rw[wK.out]);clear hgd;have Dt:=qd (Dq w9);go_wp2_with fail;refine(Dt.out).mono ?_;rintro y w10 ⟨rfl,rfl⟩;clear xc;go_wp2;go_roundw
   case rel=>exact⟨j+1,by omega,by go_num,HV.out,HT.out,by rw[j4.out];exact dJ.out,by rw[j4.out];exact HM.out,ay.out,gG.out,ah.out⟩
   case measure=>simp[intOf];omega
  ·obtain rfl:j=es.length:=by omega
   have hlt':¬(es.length:Int)<(es.length:Int):=by omega
   rw[List.take_length]at hTs hM;have rP:=qd (hV.blk);have HW:=qd (hV.row);have HT:=qd (hT);have dJ:=qd (hTs);have HM:=qd (hM);have ah:=qd (hm);clear hV hT hTs hM hE xV hm;have q1:=qJ rP.out.lt (qJ HW.out.lt (qJ HT.out.aT (qJ HT.out.aU HM.out.lt)));have ec:=rP.out.c4;have ef:=rP.out.f4;go_upto_region 11 with fail;have q6:=qJ rP.out.lt (qJ HW.out.lt (qJ HT.out.aT (qJ HT.out.aU HM.out.lt)));refine Hu rP.out ?_;rintro w11 ⟨hnew,hm⟩;simp only[pt]at hnew;clear ec ef;replace HW:=qM hm HW;replace HT:=qM hm HT;replace dJ:=qd (dJ.out.mod hm (fun b hb=>by have hh:=hbd b hb;simp<;>omega));replace HM:=qM hm HM;have z11:=(hm).size;replace ah:=qU ah hm;replace rP:=qd hnew;clear hnew hm;go_wp2;go_ret;exact⟨rfl,⟨rP.out,HW.out⟩,HT.out,by rw[←NQ];exact dJ.out,by rw[←NQ];exact HM.out,ah.out⟩
end Go.Proofs.YtnfjjbpmhcbelaaGreatDoor
