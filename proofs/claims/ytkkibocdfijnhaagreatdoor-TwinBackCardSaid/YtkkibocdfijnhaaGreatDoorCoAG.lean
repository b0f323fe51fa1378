/- Package evac by its contracts. -/
import Derived.Test.YtkkibocdfijnhaaGreatDoorCoAE
import Derived.Test.YtkkibocdfijnhaaGreatDoorCoO
import Derived.Test.YtkkibocdfijnhaaGreatDoorLaneP
import Derived.Test.YtkkibocdfijnhaaGreatDoorCoAB
import Derived.Test.YtkkibocdfijnhaaGreatDoorSqM
namespace Go.Proofs.YtkkibocdfijnhaaGreatDoor
set_option maxRecDepth 100000
set_option maxHeartbeats 8000000
open Go.RowKit bV Go
section
variable {w : World} {cap depth eb next tb vb : Nat} {ts : List Nat}
def dG (k depth hash:Nat):Nat:=if k=1 then 0 else uz hash depth
structure lQ (w:World)(eb tb vb cap:Nat)(ts:List Nat)(depth next:Nat):Prop where
 blk:aj w eb 301 #[pQ tb,.slice (some ⟨vb,0,none⟩) ts.length cap,nI depth,nI next]
 row:fD w vb ts
theorem lQ.mod {S:List Nat}{w':World}(h:lQ w eb tb vb cap ts depth next)(hm:Mod S w w')(h1:eb∉S)(h2:vb∉S):lQ w' eb tb vb cap ts depth next:=⟨h.blk.mod hm h1,h.row.mod hm h2⟩
instance {w w':World}{eb tb vb cap:Nat}{ts:List Nat}{depth next:Nat}:Md (lQ w eb tb vb cap ts depth next) w w' (lQ w' eb tb vb cap ts depth next) (fun S=>eb∉S∧vb∉S):=⟨fun h hm hs=>h.mod hm hs.1 hs.2⟩
theorem lQ.lt (h:lQ w eb tb vb cap ts depth next):eb<w.heap.size:=h.blk.lt
theorem lQ.pG (h:lQ w eb tb vb cap ts depth next):vb<w.heap.size:=h.row.lt
theorem Ql {a b:Nat}(h:b≤a):(a:Int)-(b:Int)=((a-b:Nat):Int):=by omega
theorem J4 (eb tb gb vb cap:Nat)(ts:List Nat)(depth next:Nat)(T:aC)(w:World)(h:lQ w eb tb vb cap ts depth next)(ht:TabAt w tb gb T)(hle:next≤T.gs.length)(h64:T.gs.length≤64):
  Calls Tryz.prog 239 #[pQ eb] w fun e w'=>e= .returned (.int .i64 ((T.gs.length-next:Nat):Int))∧w.drew=w':=by
 obtain⟨sS,ZI,ZJ⟩:=ht.cells;obtain⟨n,hn⟩:∃n,n=T.gs.length:=⟨_,rfl⟩;have HG:=qd (mJ tb gb T w.drew (ht.below (Below.refl _ _).drew));rw[←hn]at HG hle h64⊢;unfold bQ at HG;have HE:=qd (h);have ah:=qd (Mod.refl [] w);have qI:=qd h.blk;clear h ht;have ec:=qI.out.c4
 have hwr:IntKind.i64.wrap ((n:Int)-(next:Int))=((n-next:Nat):Int):=by rw[Ql hle];rw[IntKind.wrap_i64];omega
 clear sS ZI ZJ hn;go_in;go_upto_region 1 with fail;refine rT (fun(w':World)=>w'.cell? ⟨eb,0,none⟩=some (pQ tb)∧w'.cell? ⟨eb,3,none⟩=some (nI next)) [] ?_;have hHeld:=(⟨ec.1,ec.2.2.2⟩:_∧_);refine vW 0 rfl ?_;refine vW 1 rfl ?_;refine vW 2 rfl ?_;refine vT 3 rfl ?_;refine vW 5 rfl ?_;refine vW 6 rfl ?_;refine vW 7 rfl ?_;refine vT 8 rfl ?_;refine nT 4 rfl fun K hK=> ?_;go_simp;refine(HG.out).mono ?_;rintro y w1 ⟨rfl,rfl⟩;go_wp2_with fail;have hHeld:=(⟨ec.1,ec.2.2.2⟩:_∧_);refine kO hK ?_;clear hK K;refine vW 9 rfl ?_;refine vW 10 rfl ?_;refine aU (by kernel_rfl) ?_ _;go_wp2;go_ret;exact⟨rfl,rfl⟩
theorem Ez (eb tb vb cap:Nat)(ts:List Nat)(depth next hash t:Nat)(hk:1≤ts.length∧ts.length≤2)(hd:depth≤15)(h64:hash<18446744073709551616)(ht:ts[dG ts.length depth hash]?=some t)(w:World)(h:lQ w eb tb vb cap ts depth next):
  Calls Tryz.prog 183 #[pQ eb,nU hash] w fun e w'=>e= .returned (bQ t)∧Below w.heap.size w w':=by
 obtain⟨ec0,Uv,ec2,ec3⟩:=h.blk.c4;have hr:=h.row.at_ _ _ ht;have HT:=qd ht;unfold bQ;clear h ht;by_cases h1:ts.length=1
 ·have hs:dG ts.length depth hash=0:=by unfold dG;rw[if_pos h1]
  rw[hs]at hr;rw[h1]at Uv;go_in;go_wp2;go_ret;exact⟨rfl,Below.refl _ _⟩
 ·have h2:ts.length=2:=by omega
  have hs:dG ts.length depth hash=uz hash depth:=by unfold dG;rw[if_neg h1]
  rw[hs]at hr;rw[h2]at Uv;clear hs h1 HT;have hbl:uz hash depth<2:=Nat.mod_lt _ (by omega);have HBt:=qd (TI hash depth h64 hd w.drew);generalize uz hash depth=sd at*
  have hsd:(sd:Int)<2:=by omega
  have aff:(0:Int)≤(sd:Int):=by omega
  have MU:=qd (tQ (sd:Int) w.drew);go_in;go_upto_region 3 with fail;refine rT (fun(w':World)=>w'.cell? ⟨eb,1,none⟩=some (.slice (some ⟨vb,0,none⟩) 2 cap)∧w'.cell? ⟨eb,2,none⟩=some (nI depth)∧w'.cell? ⟨vb,sd,none⟩=some (pQ t)) [] ?_;have hHeld:=(⟨Uv,ec2,hr⟩:_∧_∧_);refine vW 0 rfl ?_;refine vW 1 rfl ?_;refine vW 2 rfl ?_;refine vT 3 rfl ?_;refine vW 4 rfl ?_;refine vW 5 rfl ?_;refine vW 6 rfl ?_;refine vW 7 rfl ?_;refine vT 8 rfl ?_;refine nT 9 rfl fun K hK=> ?_;go_simp;refine(HBt.out).mono ?_;rintro y w1 ⟨rfl,rfl⟩;go_wp2_with fail;have hHeld:=(⟨Uv,ec2,hr⟩:_∧_∧_);refine kO hK ?_;clear hK K;refine vW 10 rfl ?_;refine vW 11 rfl ?_;refine nT 12 rfl fun K hK=> ?_;go_simp;refine(MU.out).mono ?_;rintro y w1 ⟨rfl,rfl⟩;go_wp2_with fail;have hHeld:=(⟨Uv,ec2,hr⟩:_∧_∧_);refine kO hK ?_;clear hK K;refine vW 13 rfl ?_;refine vT 14 rfl ?_;refine vW 15 rfl ?_;refine aU (by kernel_rfl) ?_ _;go_wp2;go_ret;exact⟨rfl,(Below.refl _ _).drew⟩
end
section
variable {j k : Nat} {e : ay} {bs : List (Nat × Nat)} {S : List Nat} {w w' : World} {Ts : List aC}
def CB (T:aC)(e:ay):aC:=match (aJ T.gs e.key e.hash).2.1 with
 |some x=>jE T x.1 x.2 e
 |none=>T
structure MV (T:aC)(e:ay):Prop where
 ok:lZ T
 h64:e.hash<18446744073709551616
 none_:(aJ T.gs e.key e.hash).1=none
 free:∃i s,(aJ T.gs e.key e.hash).2.1=some (i,s)
 room:T.live+T.cK+1≤7*(T.gs.length:Int)
def noT:aC:=⟨[],0,0⟩
def tV (k d:Nat)(st:bP×List aC)(e:ay):bP×List aC:=
 (st.1.add cV (aJ (st.2.getD (dG k d e.hash) noT).gs e.key e.hash).2.2,st.2.set (dG k d e.hash) (CB (st.2.getD (dG k d e.hash) noT) e))
def eP (k d:Nat)(st:bP×List aC)(es:List ay):bP×List aC:=es.foldl (tV k d) st
def Fits (k d:Nat):List aC→List ay→Prop
 |_,[]=>True
 |Ts,e::es=>(∃T,Ts[dG k d e.hash]?=some T∧MV T e)∧Fits k d (Ts.set (dG k d e.hash) (CB (Ts.getD (dG k d e.hash) noT) e)) es
theorem RL (k d:Nat)(st:bP×List aC){es:List ay}(h:es[j]?=some e):eP k d st (es.take (j+1))=tV k d (eP k d st (es.take j)) e:=by
 unfold eP;rw[qH h,List.foldl_append];rfl
theorem Qm {d:Nat}:∀{es:List ay} {x:bP} {Ts:List aC} {j:Nat} {e:ay},Fits k d Ts es→es[j]?=some e→∃T,(eP k d (x,Ts) (es.take j)).2[dG k d e.hash]?=some T∧MV T e
 | [],_,_,_,_,_,h=>by simp at h
 |e0::es,x,Ts,0,e,hf,h=>by
  simp at h;subst h;exact hf.1
 |e0::es,x,Ts,j+1,e,hf,h=>by
  rw[List.getElem?_cons_succ]at h;have:=Qm (x:=x.add cV (aJ (Ts.getD (dG k d e0.hash) noT).gs e0.key e0.hash).2.2) hf.2 h;exact this
structure iB (w:World)(bs:List (Nat×Nat))(Ts:List aC):Prop where
 len:bs.length=Ts.length
 at_:∀(j:Nat) (b:Nat×Nat) (T:aC),bs[j]?=some b→Ts[j]?=some T→TabAt w b.1 b.2 T
 ne:∀(i j:Nat) (b c:Nat×Nat),bs[i]?=some b→bs[j]?=some c→i≠j→b.1≠c.1∧b.1≠c.2∧b.2≠c.1∧b.2≠c.2
def gD (bs:List (Nat×Nat)):List Nat:=bs.flatMap fun b=> [b.1,b.2]
theorem dQ:k∈gD bs↔∃b∈bs,k=b.1∨k=b.2:=by simp[gD]
theorem iB.mod (h:iB w bs Ts)(hm:Mod S w w')(hs:∀b∈bs,b.1∉S∧b.2∉S):iB w' bs Ts:=
 ⟨h.len,fun j b T hb hT=>(h.at_ j b T hb hT).mod hm (hs b (List.mem_of_getElem? hb)).1 (hs b (List.mem_of_getElem? hb)).2,h.ne⟩
theorem iB.ak (h:iB w bs Ts){b:Nat×Nat}{T':aC}(hb:bs[j]?=some b)(hT:TabAt w' b.1 b.2 T')(hm:Mod S w w')(hs:∀k∈S,k=b.1∨k=b.2∨∀c∈bs,k≠c.1∧k≠c.2):iB w' bs (Ts.set j T'):=by
 refine⟨by rw[List.length_set];exact h.len,fun i c T hc jV=> ?_,h.ne⟩;rw[List.getElem?_set]at jV;by_cases hij:j=i
 ·subst hij;rw[hb]at hc;cases hc;obtain⟨hlt,_⟩:=List.getElem?_eq_some_iff.1 hb;rw[if_pos rfl,if_pos (by rw[←h.len];exact hlt)]at jV;cases jV;exact hT
 ·rw[if_neg hij]at jV;have hne:=h.ne j i b c hb hc hij;have hcm:=List.mem_of_getElem? hc;refine(h.at_ i c T hc jV).mod hm (fun hk=> ?_) (fun hk=> ?_)
  ·rcases hs _ hk with e|e|e
   ·exact hne.1 e.symm
   ·exact hne.2.2.1 e.symm
   ·exact(e c hcm).1 rfl
  ·rcases hs _ hk with e|e|e
   ·exact hne.2.1 e.symm
   ·exact hne.2.2.2 e.symm
   ·exact(e c hcm).2 rfl
end
theorem RN {W0:World}{E:Nat→Addr}(tb gb:Nat)(T:aC)(P:MP)(x:bP)(c:bC)(g:Nat)(hg:g<T.gs.length)(hok:lZ T)(w:World)(h:TabAt w tb gb T)(hM:aN w P x)(hE:Env W0 E w)(hmt:P.mb≠tb)(gU:P.mb≠gb)(hb0:W0.heap.size≤P.mb)(hb1:W0.heap.size≤tb)(hb2:W0.heap.size≤gb):
  Calls Tryz.prog 282 #[bQ tb,aI (some ⟨P.mb,P.mo,none⟩) c,nI g] w fun e w'=>∃A cc,e= .returned (.tuple #[.slice A (bW (T.gs.getD g [])).length cc,.nilIface])∧
   w'.ownsRow w.heap.size 62 3 (.slice A (bW (T.gs.getD g [])).length cc) (bW (T.gs.getD g [])).length ((bW (T.gs.getD g [])).flatMap aT)∧TabAt w' tb gb (takeN T g 8)∧aN w' P (x.add c 1)∧Mod [P.mb,tb,gb] w w':=by
 have hB:=(Below.refl w.heap.size w).alloc (Nat.le_refl _) (.cells #[.pointer (some ⟨P.mb,P.mo,none⟩),.int .i64 c.p,.int .i64 c.v,.int .i64 c.u] 147);have hL:=aj.new w 147 #[.pointer (some ⟨P.mb,P.mo,none⟩),.int .i64 c.p,.int .i64 c.v,.int .i64 c.u];obtain⟨W,hW⟩:∃W,W=w.alloc (.cells #[.pointer (some ⟨P.mb,P.mo,none⟩),.int .i64 c.p,.int .i64 c.v,.int .i64 c.u] 147):=⟨_,rfl⟩;rw[←hW]at hB hL;obtain⟨JN,JO,JQ,JR⟩:=hL.c4;have hml:=hM.lt;have htl:=h.aR;have hgl:=h.aS;have hB0:=hE.size;have HW:=qd hW
 have hg0:(g:Int)<(T.gs.length:Int):=by omega
 have sQ:=qd (GV tb gb T P.mb P.mt P.pre P.post P.mo x.all x.last P.m c g hg W (h.below hB) (hM.below hB) hmt gU);have J5:=qd hok;unfold bQ aI bE at sQ;unfold bQ aI;have HT:=qd (h.below hB);have av:=qd (hE.next hB);have ah:=qd (Mod.of_below hB [P.mb,tb,gb]);clear hW hB h hM hL hE hok;generalize hGn:T.gs.getD g []=G;go_in;go_upto_region 1 with fail;rw[←HW.out];go_wp2_with fail;refine(sQ.out).mono ?_;rintro x w1 ⟨rfl,hM1,hm⟩;clear JN JO JQ JR;replace HT:=qM hm HT;replace av:=qM hm av;replace ah:=qU ah hm;clear hm;have HM:=qd (show aN w1 P (x.add c 1)from hM1);clear hM1;go_upto_region 4 with fail;have q1:=qJ HT.out.aR (qJ HT.out.aS (qJ HM.out.lt ah.out.size));refine dI 196 #[.pointer (some ⟨gb,g*25,none⟩)] ?_;rintro w2 ⟨hnew,hb⟩;obtain⟨vb,hvb⟩:∃vb,vb=w1.heap.size:=⟨_,rfl⟩;rw[←hvb]at hnew⊢
 replace hvb:w1.heap.size≤vb:=by omega
 replace HT:=qB hb HT;replace av:=qB hb av;replace HM:=qB hb HM;replace ah:=qT ah hb;have HV:=qd (hnew);clear hnew hb;have z5:=ah.out.size;have zN:=HV.out.cell 0;simp only[List.getElem?_toArray,List.getElem?_cons_zero]at zN;have bJ:=qd (Eu gb 200 _ _ (g*25) _ w2 (HT.out.group g hg) av.out.tz);rw[hGn]at bJ;unfold bE at bJ;go_wp2_with fail;refine(bJ.out).mono ?_;rintro x w3 ⟨A,cc,rfl,hO,hb⟩;clear zN;replace HT:=qB hb HT;replace av:=qB hb av;replace HM:=qB hb HM;replace HV:=qB hb HV;replace ah:=qT ah hb;clear hb;have hwl:=ah.out.size;have HO:=qd (hO);clear hO;have q6:=qJ HT.out.aR (qJ HT.out.aS (qJ HM.out.lt HV.out.lt));clear HW;go_wp2;go_loopw [11,12,13,26] (fun _ _ _ i wr=>∃k:Nat,k≤8∧i= .int .i64 k∧TabAt wr tb gb (takeN T g k)∧aN wr P (x.add c 1)∧Env W0 E wr∧wr.ownsRow w2.heap.size 62 3 (.slice A (bW G).length cc) (bW G).length ((bW G).flatMap aT)∧aj wr vb 196 #[.pointer (some ⟨gb,g*25,none⟩)]∧Mod [P.mb,tb,gb] w wr) (fun _ _ _ i _=>8-(intOf i).toNat)
 case atStart=>exact⟨0,by omega,rfl,HT.out,HM.out,av.out,HO.out,HV.out,ah.out⟩
 case round=>
  clear HT HM av HO HV ah;obtain⟨k,hk,rfl,hT,hM,hE,hO,hV,hm⟩:=hrel;by_cases hlt:k<8
  ·have hlt':(k:Int)<8:=by omega
   have HT:=qd (hT);have HM:=qd (hM);have av:=qd (hE);have HO:=qd (hO);have HV:=qd (hV);have ah:=qd (hm);clear hT hM hE hO hV hm
   have hgk:g<(takeN T g k).gs.length:=by rw[rJ];exact hg
   have HG:=qd (HT.out.group g hgk);have HOe:=qd (J5.out.tkN g k);have zN:=HV.out.cell 0;simp only[List.getElem?_toArray,List.getElem?_cons_zero]at zN
   cases hsl:aH (takeN T g k).gs g k with
   |full e=>
    have iQ:=qd (Et gb 200 _ _ (g*25) _ wr HG.out k hlt e (by unfold aH at hsl;exact hsl));unfold bE aP at iQ;clear HG;go_wp2_with fail;refine(iQ.out).mono ?_;rintro x w4 ⟨rfl,hb⟩;clear zN;replace HT:=qB hb HT;replace HM:=qB hb HM;replace av:=qB hb av;replace HO:=qB hb HO;replace HV:=qB hb HV;replace ah:=qT ah hb;clear hb iQ;go_upto_region 10 with fail;have q1:=qJ HT.out.aR (qJ HT.out.aS (qJ HM.out.lt (qJ HV.out.lt ah.out.size)));refine dI 62 #[nU e.key,nU e.val,nU e.hash] ?_;rintro w5 ⟨hnew,hb⟩;replace HT:=qB hb HT;replace HM:=qB hb HM;replace av:=qB hb av;replace HO:=qB hb HO;replace HV:=qB hb HV;replace ah:=qT ah hb;have HD:=qd (hnew);clear hnew hb;have zN:=HV.out.cell 0;simp only[List.getElem?_toArray,List.getElem?_cons_zero]at zN;have BD:=qd (Ev tb gb (takeN T g k) g k hgk hlt e hsl HOe.out.small w5 HT.out);unfold bQ GK at BD;clear HT HD;go_wp2_with fail;refine(BD.out).mono ?_;rintro x w6 ⟨rfl,hT6,hm⟩;clear zN;replace HM:=qM hm HM;replace av:=qM hm av;replace HO:=qM hm HO;replace HV:=qM hm HV;replace ah:=qU ah hm;clear hm;have HT:=qd (hT6);clear hT6;have ny:=qd (show takeN T g (k+1)=iP (takeN T g k) g k from by show gJ _ _ _=_;unfold gJ;rw[hsl];rfl);clear hsl;go_wp2;go_roundw
    case rel=>exact⟨k+1,by omega,by go_num,by rw[ny.out];exact HT.out,HM.out,av.out,HO.out,HV.out,ah.out⟩
    case measure=>simp[intOf];omega
   |empty=>
    have iQ:=qd (JK gb 200 _ _ (g*25) _ wr HG.out k hlt (by unfold aH at hsl;rw[hsl];rfl) E (av.out.errs.at_ 5 (by omega) (by omega)));unfold bE aP at iQ;clear HG;go_wp2_with fail;refine(iQ.out).mono ?_;rintro x w4 ⟨rfl,hb⟩;clear zN;replace HT:=qB hb HT;replace HM:=qB hb HM;replace av:=qB hb av;replace HO:=qB hb HO;replace HV:=qB hb HV;replace ah:=qT ah hb;clear hb iQ;have ny:=qd (show takeN T g (k+1)=takeN T g k from by show gJ _ _ _=_;unfold gJ;rw[hsl];rfl);clear hsl;go_upto_region 11 with fail;have q1:=qJ HT.out.aR (qJ HT.out.aS (qJ HM.out.lt (qJ HV.out.lt ah.out.size)));refine dI 62 #[.int .u64 0,.int .u64 0,.int .u64 0] ?_;rintro w5 ⟨hnew,hb⟩;replace HT:=qB hb HT;replace HM:=qB hb HM;replace av:=qB hb av;replace HO:=qB hb HO;replace HV:=qB hb HV;replace ah:=qT ah hb;have HD:=qd (hnew);clear hnew hb;go_wp2;go_roundw
    case rel=>exact⟨k+1,by omega,by go_num,by rw[ny.out];exact HT.out,HM.out,av.out,HO.out,HV.out,ah.out⟩
    case measure=>simp[intOf];omega
   |pO=>
    have iQ:=qd (JK gb 200 _ _ (g*25) _ wr HG.out k hlt (by unfold aH at hsl;rw[hsl];rfl) E (av.out.errs.at_ 5 (by omega) (by omega)));unfold bE aP at iQ;clear HG;go_wp2_with fail;refine(iQ.out).mono ?_;rintro x w4 ⟨rfl,hb⟩;clear zN;replace HT:=qB hb HT;replace HM:=qB hb HM;replace av:=qB hb av;replace HO:=qB hb HO;replace HV:=qB hb HV;replace ah:=qT ah hb;clear hb iQ;have ny:=qd (show takeN T g (k+1)=takeN T g k from by show gJ _ _ _=_;unfold gJ;rw[hsl];rfl);clear hsl;go_upto_region 11 with fail;have q1:=qJ HT.out.aR (qJ HT.out.aS (qJ HM.out.lt (qJ HV.out.lt ah.out.size)));refine dI 62 #[.int .u64 0,.int .u64 0,.int .u64 0] ?_;rintro w5 ⟨hnew,hb⟩;replace HT:=qB hb HT;replace HM:=qB hb HM;replace av:=qB hb av;replace HO:=qB hb HO;replace HV:=qB hb HV;replace ah:=qT ah hb;have HD:=qd (hnew);clear hnew hb;go_wp2;go_roundw
    case rel=>exact⟨k+1,by omega,by go_num,by rw[ny.out];exact HT.out,HM.out,av.out,HO.out,HV.out,ah.out⟩
    case measure=>simp[intOf];omega
  ·obtain rfl:k=8:=by omega
   have HF:=qd (And.intro hT (And.intro hM (And.intro (qm hO (show w.heap.size≤w2.heap.size by omega)) hm)));clear hT hM hE hO hV hm
   have hlt':¬((8:Nat):Int)<8:=by omega
   go_wp2;refine bodyPost_ret (v:= .tuple #[.slice A (bW G).length cc,.nilIface]) (by simp[results,Tryz.results282,go_sem]) rfl ⟨A,cc,rfl,HF.out.2.2.1,HF.out.1,HF.out.2.1,HF.out.2.2.2⟩
theorem Uw {W0:World}{E:Nat→Addr}(eb tb gb vb cap:Nat)(depth next:Nat)(bs:List (Nat×Nat))(T:aC)(Ts:List aC)(P:MP)(x:bP)(hk:1≤bs.length∧bs.length≤2)(hd:depth≤15)(w:World)
  (h:lQ w eb tb vb cap (bs.map Prod.fst) depth next) (ht:TabAt w tb gb T) (hok:lZ T) (hn:next<T.gs.length) (hts:iB w bs Ts) (hfit:Fits bs.length depth Ts (bW (T.gs.getD next [])))
  (hM:aN w P x) (hE:Env W0 E w) (hbd:∀b∈bs,b.1∉[P.mb,eb,vb,tb,gb]∧b.2∉[P.mb,eb,vb,tb,gb]) (hmd:P.mb∉[eb,vb,tb,gb]) (hed:eb∉[vb,tb,gb]) (hvd:vb∉[tb,gb])
  (hb0:W0.heap.size≤P.mb) (hb1:W0.heap.size≤tb) (hb2:W0.heap.size≤gb) (_:W0.heap.size≤eb) (hb4:∀b∈bs,W0.heap.size≤b.1∧W0.heap.size≤b.2):
  Calls Tryz.prog 278 #[pQ eb,.pointer (some ⟨P.mb,P.mo,none⟩)] w fun e w'=>e= .returned (.bool true)∧lQ w' eb tb vb cap (bs.map Prod.fst) depth (next+1)∧TabAt w' tb gb (takeN T next 8)∧
   iB w' bs (eP bs.length depth ((x.add (cU 1) 1).add cV 1,Ts) (bW (T.gs.getD next []))).2∧aN w' P (eP bs.length depth ((x.add (cU 1) 1).add cV 1,Ts) (bW (T.gs.getD next []))).1∧Mod (P.mb::eb::tb::gb::gD bs) w w':=by
 simp only[List.mem_cons,List.not_mem_nil,or_false,not_or]at hmd hed hvd hbd;have hml:=hM.lt;have hB0:=hE.size;have jm:=qd (J4 eb tb gb vb cap _ depth next T w h ht (by omega) hok.pow.le);have hle:=hok.pow.le
 obtain⟨dn,hdn⟩:∃dn,dn=T.gs.length-next:=⟨_,rfl⟩
 rw[←hdn]at jm
 have hd0:¬(dn:Int)=0:=by omega
 have hd1:¬dn=0:=by omega
 obtain⟨bn,hbn⟩:∃bn,bn=(bs.map Prod.fst).length:=⟨_,rfl⟩;have hbl:(bs.map Prod.fst).length=bs.length:=List.length_map ..;have J5:=qd hok
 have hbs:∀b∈bs,b.1<w.heap.size∧b.2<w.heap.size:=fun b hb=>by
  obtain⟨j,hj⟩:=List.getElem?_of_mem hb;obtain⟨hlt,_⟩:=List.getElem?_eq_some_iff.1 hj
  have hlt2:j<Ts.length:=by rw[←hts.len];exact hlt
  have:=hts.at_ j b Ts[j] hj (List.getElem?_eq_getElem hlt2);exact⟨this.aR,this.aS⟩
 obtain⟨es,hes⟩:∃es,es=bW (T.gs.getD next []):=⟨_,rfl⟩;rw[←hes]at hfit⊢;have ZL:=qd hes;clear hes;have nV:=qd hbd;have HV:=qd (h);have HT:=qd (ht);have dM:=qd (hts);have av:=qd (hE);have HM:=qd (hM);have ah:=qd (Mod.refl (P.mb::eb::tb::gb::gD bs) w);have HF:=qd hfit;clear h ht hts hE hM hok hdn hfit;have q1:=qJ HV.out.lt (qJ HV.out.pG (qJ HT.out.aR (qJ HT.out.aS HM.out.lt)));go_in;go_upto_region 1 with fail;go_wp2_with fail;refine(jm.out).mono ?_;rintro y w1 ⟨rfl,hw1⟩;have hm:Mod [] w w1:=hw1▸Mod.drewN [] w 1;clear hw1 jm;replace HV:=qM hm HV;replace HT:=qM hm HT;replace dM:=qd (dM.out.mod hm (fun b hb=>by have hh:=hbd b hb;simp<;>omega));replace av:=qM hm av;replace HM:=qM hm HM;have z6:=(hm).size;replace ah:=qU ah hm;clear hm;have HU:=qd (rG P.mb P.mt P.pre P.post P.mo _ _ P.m 1 (by omega) w1 HM.out);clear HM;go_wp2_with fail;refine(HU.out).mono ?_;rintro x w2 ⟨rfl,hM2,hm⟩;replace HV:=qM hm HV;replace HT:=qM hm HT;replace dM:=qd (dM.out.mod hm (fun b hb=>by have hh:=hbd b hb;simp<;>omega));replace av:=qM hm av;have z7:=(hm).size;replace ah:=qU ah hm;clear hm;have HM:=qd (show aN w2 P (x.add (cU 1) 1)from hM2);clear hM2 HU;go_upto_region 4 with fail;have hEb:=HV.out.blk;rw[←hbn]at hEb;have qI:=qd (hEb);clear hEb;have ec:=qI.out.c4;refine rT (fun(w':World)=>w'.cell? ⟨eb,0,none⟩=some (pQ tb)∧w'.cell? ⟨eb,3,none⟩=some (nI next)) [] ?_;have hHeld:=(⟨ec.1,ec.2.2.2⟩:_∧_);refine vW 0 rfl ?_;refine vW 1 rfl ?_;refine vW 2 rfl ?_;refine vT 3 rfl ?_;refine vW 4 rfl ?_
 refine vW 6 rfl ?_;refine vW 7 rfl ?_;refine vW 8 rfl ?_;refine vT 9 rfl ?_;refine vW 15 rfl ?_;refine nT 5 rfl fun K hK=> ?_;go_simp;refine(vI (some ⟨P.mb,P.mo,none⟩) _).mono ?_;rintro y w3 ⟨rfl,hb⟩;replace hb:Below w2.heap.size w2 w3:=bL hb (Below.refl _ _).drew;unfold aI;clear ec;replace HV:=qB hb HV;replace HT:=qB hb HT;replace dM:=qd (dM.out.mod (Mod.of_below hb []) (by simp));replace av:=qB hb av;replace HM:=qB hb HM;replace qI:=qB hb qI;have z8:=(hb).size;replace ah:=qT ah hb;clear hb;have ec:=qI.out.c4;go_wp2_with fail;have hHeld:=(⟨ec.1,ec.2.2.2⟩:_∧_);refine kO hK ?_;clear hK K;refine nT 10 rfl fun K hK=> ?_;go_simp;have uT:=qd (RN tb gb T P (x.add (cU 1) 1) cV next hn J5.out w3 HT.out HM.out av.out (by omega) (by omega) hb0 hb1 hb2);unfold bQ aI cV at uT;refine(uT.out).mono ?_;rintro y w4 ⟨A,cc,rfl,xA,Qi,GR,hm⟩;clear uT HT HM ec;replace HV:=qM hm HV;replace dM:=qd (dM.out.mod hm (fun b hb=>by have hh:=hbd b hb;simp<;>omega));replace av:=qM hm av;replace qI:=qM hm qI;have z9:=(hm).size;replace ah:=qU ah hm;have HT:=qd (Qi);have HM:=qd (GR);have gT:=qd (xA);clear Qi GR xA hm;have ec:=qI.out.c4;rw[←ZL.out]at gT⊢;go_wp2_with fail;have hHeld:=(⟨ec.1,ec.2.2.2⟩:_∧_);refine kO hK ?_;clear hK K;refine vW 11 rfl ?_;refine vW 12 rfl ?_;refine nT 13 rfl fun K hK=> ?_;go_simp;refine(Us A es.length cc w4).mono ?_;rintro y w5 ⟨rfl,rfl⟩;go_wp2_with fail;have hHeld:=(⟨ec.1,ec.2.2.2⟩:_∧_);refine kO hK ?_;clear hK K;refine vW 14 rfl ?_;refine aU (by kernel_rfl) ?_ _
 have adP:es.length≤8:=by have h1:=yu (T.gs.getD next []);have h2:=J5.out.wide.at_ hn;rw[ZL.out];omega
 clear hd0 hd1;go_wp2;clear ec qI;obtain⟨st0,MW⟩:∃st0:bP×List aC,st0=((x.add (cU 1) 1).add cV 1,Ts):=⟨_,rfl⟩;go_loopw [6,7,8,29] (fun _ _ _ i wr=>∃j:Nat,j≤es.length∧i= .int .i64 j∧lQ wr eb tb vb cap (bs.map Prod.fst) depth next∧TabAt wr tb gb (takeN T next 8)∧iB wr bs (eP bs.length depth st0 (es.take j)).2∧aN wr P (eP bs.length depth st0 (es.take j)).1∧Env W0 E wr∧wr.ownsRow w3.heap.size 62 3 (.slice A es.length cc) es.length (es.flatMap aT)∧Mod (P.mb::eb::tb::gb::gD bs) w wr) (fun _ _ _ i _=>es.length-(intOf i).toNat)
 case atStart=>exact⟨0,by omega,rfl,HV.out,HT.out,by rw[MW];exact dM.out,by rw[MW];exact HM.out,av.out,gT.out,ah.out⟩
 case round=>
  clear HV HT dM HM av gT ah;obtain⟨j,hj,rfl,hV,hT,hTs,hM,hE,xA,hm⟩:=hrel;by_cases hlt:j<es.length
  ·have hlt':(j:Int)<(es.length:Int):=by omega
   have hj0:(0:Int)≤(j:Int):=by omega
   obtain⟨e,he⟩:∃e,es[j]?=some e:=⟨_,List.getElem?_eq_getElem hlt⟩;obtain⟨g,rfl,hgb,k0,k1,k2,hjn⟩:=J2 xA he;have eD:=qd (RL bs.length depth st0 he);obtain⟨T1,hT1,hcp⟩:=Qm (x:=(x.add (cU 1) 1).add cV 1) HF.out he;rw[←MW]at hT1;clear he hjn;obtain⟨st,hst⟩:∃st,st=eP bs.length depth st0 (es.take j):=⟨_,rfl⟩;rw[←hst]at hTs hM eD hT1;clear hst;obtain⟨sd,hsd⟩:∃sd,sd=dG bs.length depth e.hash:=⟨_,rfl⟩;have ZM:=qd hsd;rw[←hsd]at hT1;clear hsd;obtain⟨b,hb⟩:∃b,bs[sd]?=some b:=⟨_,List.getElem?_eq_getElem (by rw[hTs.len];exact(List.getElem?_eq_some_iff.1 hT1).1)⟩;have oI:=List.mem_of_getElem? hb;have hbb:=hbd b oI;have afg:=hbs b oI;have afh:=hb4 b oI;have EA:=qd hb;have HT1:=qd hT1;have kH:=qd hcp;clear hb hT1 hcp;have HV:=qd (hV);have HT:=qd (hT);have dM:=qd (hTs);have HM:=qd (hM);have av:=qd (hE);have gT:=qd (xA);have ah:=qd (hm);clear hV hT hTs hM hE xA hm;have Qn:=qd (fun(V:World) (hV:lQ V eb tb vb cap (bs.map Prod.fst) depth next)=>Ez eb tb vb cap (bs.map Prod.fst) depth next e.hash b.1 (by rw[List.length_map];exact hk) hd kH.out.h64 (by rw[List.length_map,←ZM.out,List.getElem?_map,EA.out];rfl) V hV);unfold bQ at Qn;go_upto_region 7 with fail;have q1:=qJ HV.out.lt (qJ HV.out.pG (qJ HT.out.aR (qJ HT.out.aS (qJ HM.out.lt ah.out.size))));refine dI 62 #[nU e.key,nU e.val,nU e.hash] ?_;rintro w6 ⟨hnew,hb⟩;obtain⟨xb,hxb⟩:∃xb,xb=wr.heap.size:=⟨_,rfl⟩;rw[←hxb]at hnew⊢
   replace hxb:wr.heap.size≤xb:=by omega
   clear k0 k1 k2;replace HV:=qB hb HV;replace HT:=qB hb HT;replace dM:=qd (dM.out.mod (Mod.of_below hb []) (by simp));replace HM:=qB hb HM;replace av:=qB hb av;replace gT:=qB hb gT;have z7:=(hb).size;replace ah:=qT ah hb;have HX:=qd (hnew);clear hnew hb;have xc:=HX.out.c3;obtain⟨i,s,hfr⟩:=kH.out.free;have MK:=qd hfr;clear hfr;refine rT (fun(w':World)=>w'.cell? ⟨xb,0,none⟩=some (nU e.key)∧w'.cell? ⟨xb,1,none⟩=some (nU e.val)∧w'.cell? ⟨xb,2,none⟩=some (nU e.hash)) [] ?_;have hHeld:=(⟨xc.1,xc.2.1,xc.2.2⟩:_∧_∧_);refine vW 0 rfl ?_;refine vW 1 rfl ?_;refine vT 2 rfl ?_;refine vW 4 rfl ?_;refine vT 6 rfl ?_;refine nT 3 rfl fun K hK=> ?_;go_simp;refine(Qn.out _ (HV.out.mod (Mod.drewN [] w6 1) (by simp) (by simp))).mono ?_;rintro y w7 ⟨rfl,hb⟩;replace hb:Below w6.heap.size w6 w7:=bL hb (Below.refl _ _).drew;clear xc;replace HV:=qB hb HV;replace HT:=qB hb HT;replace dM:=qd (dM.out.mod (Mod.of_below hb []) (by simp));replace HM:=qB hb HM;replace av:=qB hb av;replace gT:=qB hb gT;replace HX:=qB hb HX;have z8:=(hb).size;replace ah:=qT ah hb;clear hb;have xc:=HX.out.c3;go_wp2_with fail;have hHeld:=(⟨xc.1,xc.2.1,xc.2.2⟩:_∧_∧_);refine kO hK ?_;clear hK K;refine nT 5 rfl fun K hK=> ?_;go_simp;refine(vI (some ⟨P.mb,P.mo,none⟩) _).mono ?_;rintro y w8 ⟨rfl,hb⟩;unfold aI;clear xc;replace HV:=qB hb HV;replace HT:=qB hb HT;replace dM:=qd (dM.out.mod (Mod.of_below hb []) (by simp));replace HM:=qB hb HM;replace av:=qB hb av;replace gT:=qB hb gT;replace HX:=qB hb HX;have z9:=(hb).size
   replace ah:=qT ah hb;clear hb;have xc:=HX.out.c3;go_wp2_with fail;have hHeld:=(⟨xc.1,xc.2.1,xc.2.2⟩:_∧_∧_);refine kO hK ?_;clear hK K;refine nT 7 rfl fun K hK=> ?_;go_simp;have J6:=qd (K7 b.1 b.2 T1 P.mb P.mt P.pre P.post P.mo st.1.all st.1.last P.m cV e w8 (dM.out.at_ sd b T1 EA.out HT1.out) kH.out.ok.pow kH.out.h64 HM.out (by omega) (by omega) av.out.tz (by have:=av.out.MO;omega) kH.out.none_ i s MK.out kH.out.ok.small kH.out.room);unfold bQ aI aP cV at J6;refine(J6.out).mono ?_;rintro y w9 ⟨rfl,hT9,hM9,hm⟩;clear J6 HM;have abN:=dM.out.ak EA.out hT9 hm (by intro q hq;simp at hq;rcases hq with rfl|rfl|rfl;exact .inr (.inr (fun c hc=>by have:=hbd c hc;omega));exact .inl rfl;exact .inr (.inl rfl));clear dM hT9;have hm0:Mod (P.mb::eb::tb::gb::gD bs) w8 w9:=hm.more (by intro q hq;simp at hq;rcases hq with rfl|rfl|rfl;simp;simp[dQ];exact .inr (.inr (.inr (.inr ⟨_,_,oI,.inl rfl⟩)));simp[dQ];exact .inr (.inr (.inr (.inr ⟨_,_,oI,.inr rfl⟩))));have Ux:=ah;clear ah;have ah:=qd (Mod.refl [P.mb,b.1,b.2] w8);clear xc;replace HV:=qM hm HV;replace HT:=qM hm HT;replace av:=qM hm av;replace gT:=qM hm gT;replace HX:=qM hm HX;have z10:=(hm).size;replace ah:=qU ah hm;clear ah;have ah:=qd (Ux.out.then hm0);clear Ux hm0 hm;have dM:=qd (abN);have HM:=qd (show aN w9 P (st.1.add cV (aJ T1.gs e.key e.hash).2.2)from hM9);clear abN hM9;have xc:=HX.out.c3;go_wp2_with fail;have hHeld:=(⟨xc.1,xc.2.1,xc.2.2⟩:_∧_∧_);refine kO hK ?_;clear hK K;refine vW 8 rfl ?_;refine vW 9 rfl ?_;refine vW 10 rfl ?_
   refine vW 11 rfl ?_;refine vW 12 rfl ?_;refine aU (by kernel_rfl) ?_ _
   have hgd:st.2.getD sd noT=T1:=by rw[List.getD_eq_getElem?_getD,HT1.out];rfl
   have ny:=qd (show eP bs.length depth st0 (es.take (j+1))=(st.1.add cV (aJ T1.gs e.key e.hash).2.2,st.2.set sd (jE T1 i s e))from by rw[eD.out];unfold tV;rw[←ZM.out,hgd];unfold CB;rw[MK.out]);clear hgd;have MX:=qd (Cz w9);go_wp2_with fail;refine(MX.out).mono ?_;rintro y w10 ⟨rfl,rfl⟩;clear xc;go_wp2;go_roundw
   case rel=>exact⟨j+1,by omega,by go_num,HV.out,HT.out,by rw[ny.out];exact dM.out,by rw[ny.out];exact HM.out,av.out,gT.out,ah.out⟩
   case measure=>simp[intOf];omega
  ·obtain rfl:j=es.length:=by omega
   have hlt':¬(es.length:Int)<(es.length:Int):=by omega
   rw[List.take_length]at hTs hM;have qI:=qd (hV.blk);have HW:=qd (hV.row);have HT:=qd (hT);have dM:=qd (hTs);have HM:=qd (hM);have ah:=qd (hm);clear hV hT hTs hM hE xA hm;have q1:=qJ qI.out.lt (qJ HW.out.lt (qJ HT.out.aR (qJ HT.out.aS HM.out.lt)));have ec:=qI.out.c4;have ef:=qI.out.f4;go_upto_region 11 with fail;have q6:=qJ qI.out.lt (qJ HW.out.lt (qJ HT.out.aR (qJ HT.out.aS HM.out.lt)));refine Gq qI.out ?_;rintro w11 ⟨hnew,hm⟩;simp only[pt]at hnew;clear ec ef;replace HW:=qM hm HW;replace HT:=qM hm HT;replace dM:=qd (dM.out.mod hm (fun b hb=>by have hh:=hbd b hb;simp<;>omega));replace HM:=qM hm HM;have z11:=(hm).size;replace ah:=qU ah hm;replace qI:=qd hnew;clear hnew hm;go_wp2;go_ret;exact⟨rfl,⟨qI.out,HW.out⟩,HT.out,by rw[←MW];exact dM.out,by rw[←MW];exact HM.out,ah.out⟩
end Go.Proofs.YtkkibocdfijnhaaGreatDoor
