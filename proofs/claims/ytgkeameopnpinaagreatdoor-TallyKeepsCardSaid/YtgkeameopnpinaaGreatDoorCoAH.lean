/- Package evac by its contracts. -/
import Derived.Test.YtgkeameopnpinaaGreatDoorCoAE
import Derived.Test.YtgkeameopnpinaaGreatDoorCoO
import Derived.Test.YtgkeameopnpinaaGreatDoorLaneP
import Derived.Test.YtgkeameopnpinaaGreatDoorCoAB
import Derived.Test.YtgkeameopnpinaaGreatDoorSqM
namespace Go.Proofs.YtgkeameopnpinaaGreatDoor
set_option maxRecDepth 100000
set_option maxHeartbeats 8000000
open Go.RowKit bY Go
section
variable {w : World} {cap depth eb next tb vb : Nat} {ts : List Nat}
def dx (k depth hash:Nat):Nat:=if k=1 then 0 else sO hash depth
structure kV (w:World)(eb tb vb cap:Nat)(ts:List Nat)(depth next:Nat):Prop where
 blk:aj w eb 328 #[pQ tb,.slice (some ⟨vb,0,none⟩) ts.length cap,nI depth,nI next]
 row:eU w vb ts
theorem kV.mod {S:List Nat}{w':World}(h:kV w eb tb vb cap ts depth next)(hm:Mod S w w')(h1:eb∉S)(h2:vb∉S):kV w' eb tb vb cap ts depth next:=⟨h.blk.mod hm h1,h.row.mod hm h2⟩
instance {w w':World}{eb tb vb cap:Nat}{ts:List Nat}{depth next:Nat}:Md (kV w eb tb vb cap ts depth next) w w' (kV w' eb tb vb cap ts depth next) (fun S=>eb∉S∧vb∉S):=⟨fun h hm hs=>h.mod hm hs.1 hs.2⟩
theorem kV.lt (h:kV w eb tb vb cap ts depth next):eb<w.heap.size:=h.blk.lt
theorem kV.oz (h:kV w eb tb vb cap ts depth next):vb<w.heap.size:=h.row.lt
theorem OQ {a b:Nat}(h:b≤a):(a:Int)-(b:Int)=((a-b:Nat):Int):=by omega
theorem IX (eb tb gb vb cap:Nat)(ts:List Nat)(depth next:Nat)(T:aB)(w:World)(h:kV w eb tb vb cap ts depth next)(ht:TabAt w tb gb T)(hle:next≤T.gs.length)(h64:T.gs.length≤64):
  Calls Tryz.prog 253 #[pQ eb] w fun e w'=>e= .returned (.int .i64 ((T.gs.length-next:Nat):Int))∧w.drew=w':=by
 obtain⟨rR,Yf,Yg⟩:=ht.cells;obtain⟨n,hn⟩:∃n,n=T.gs.length:=⟨_,rfl⟩;have HG:=qd (qP tb gb T w.drew (ht.below (Below.refl _ _).drew));rw[←hn]at HG hle h64⊢;unfold bP at HG;have HE:=qd (h);have ah:=qd (Mod.refl [] w);have p9:=qd h.blk;clear h ht;have ec:=p9.out.c4
 have hwr:IntKind.i64.wrap ((n:Int)-(next:Int))=((n-next:Nat):Int):=by rw[OQ hle];rw[IntKind.wrap_i64];omega
 clear rR Yf Yg hn;go_in;go_upto_region 1 with fail;refine rT (fun(w':World)=>w'.cell? ⟨eb,0,none⟩=some (pQ tb)∧w'.cell? ⟨eb,3,none⟩=some (nI next)) [] ?_;have hHeld:=(⟨ec.1,ec.2.2.2⟩:_∧_);refine vW 0 rfl ?_;refine vW 1 rfl ?_;refine vW 2 rfl ?_;refine vT 3 rfl ?_;refine vW 5 rfl ?_;refine vW 6 rfl ?_;refine vW 7 rfl ?_;refine vT 8 rfl ?_;refine nT 4 rfl fun K hK=> ?_;go_simp;refine(HG.out).mono ?_;rintro y w1 ⟨rfl,rfl⟩;go_wp2_with fail;have hHeld:=(⟨ec.1,ec.2.2.2⟩:_∧_);refine kO hK ?_;clear hK K;refine vW 9 rfl ?_;refine vW 10 rfl ?_;refine aQ (by kernel_rfl) ?_ _;go_wp2;go_ret;exact⟨rfl,rfl⟩
theorem Dw (eb tb vb cap:Nat)(ts:List Nat)(depth next hash t:Nat)(hk:1≤ts.length∧ts.length≤2)(hd:depth≤15)(h64:hash<18446744073709551616)(ht:ts[dx ts.length depth hash]?=some t)(w:World)(h:kV w eb tb vb cap ts depth next):
  Calls Tryz.prog 203 #[pQ eb,nU hash] w fun e w'=>e= .returned (bP t)∧Below w.heap.size w w':=by
 obtain⟨ec0,SL,ec2,ec3⟩:=h.blk.c4;have hr:=h.row.at_ _ _ ht;have HT:=qd ht;unfold bP;clear h ht;by_cases h1:ts.length=1
 ·have hs:dx ts.length depth hash=0:=by unfold dx;rw[if_pos h1]
  rw[hs]at hr;rw[h1]at SL;go_in;go_wp2;go_ret;exact⟨rfl,Below.refl _ _⟩
 ·have h2:ts.length=2:=by omega
  have hs:dx ts.length depth hash=sO hash depth:=by unfold dx;rw[if_neg h1]
  rw[hs]at hr;rw[h2]at SL;clear hs h1 HT;have hbl:sO hash depth<2:=Nat.mod_lt _ (by omega);have HBt:=qd (RZ hash depth h64 hd w.drew);generalize sO hash depth=sd at*
  have hsd:(sd:Int)<2:=by omega
  have aek:(0:Int)≤(sd:Int):=by omega
  have Lg:=qd (sF (sd:Int) w.drew);go_in;go_upto_region 3 with fail;refine rT (fun(w':World)=>w'.cell? ⟨eb,1,none⟩=some (.slice (some ⟨vb,0,none⟩) 2 cap)∧w'.cell? ⟨eb,2,none⟩=some (nI depth)∧w'.cell? ⟨vb,sd,none⟩=some (pQ t)) [] ?_;have hHeld:=(⟨SL,ec2,hr⟩:_∧_∧_);refine vW 0 rfl ?_;refine vW 1 rfl ?_;refine vW 2 rfl ?_;refine vT 3 rfl ?_;refine vW 4 rfl ?_;refine vW 5 rfl ?_;refine vW 6 rfl ?_;refine vW 7 rfl ?_;refine vT 8 rfl ?_;refine nT 9 rfl fun K hK=> ?_;go_simp;refine(HBt.out).mono ?_;rintro y w1 ⟨rfl,rfl⟩;go_wp2_with fail;have hHeld:=(⟨SL,ec2,hr⟩:_∧_∧_);refine kO hK ?_;clear hK K;refine vW 10 rfl ?_;refine vW 11 rfl ?_;refine nT 12 rfl fun K hK=> ?_;go_simp;refine(Lg.out).mono ?_;rintro y w1 ⟨rfl,rfl⟩;go_wp2_with fail;have hHeld:=(⟨SL,ec2,hr⟩:_∧_∧_);refine kO hK ?_;clear hK K;refine vW 13 rfl ?_;refine vT 14 rfl ?_;refine vW 15 rfl ?_;refine aQ (by kernel_rfl) ?_ _;go_wp2;go_ret;exact⟨rfl,(Below.refl _ _).drew⟩
end
section
variable {j k : Nat} {e : av} {bs : List (Nat × Nat)} {S : List Nat} {w w' : World} {Ts : List aB}
def Bz (T:aB)(e:av):aB:=match (aI T.gs e.key e.hash).2.1 with
 |some x=>jf T x.1 x.2 e
 |none=>T
structure Lh (T:aB)(e:av):Prop where
 ok:lD T
 h64:e.hash<18446744073709551616
 none_:(aI T.gs e.key e.hash).1=none
 free:∃i s,(aI T.gs e.key e.hash).2.1=some (i,s)
 room:T.live+T.bS+1≤7*(T.gs.length:Int)
def noT:aB:=⟨[],0,0⟩
def sG (k d:Nat)(st:bI×List aB)(e:av):bI×List aB:=
 (st.1.add cV (aI (st.2.getD (dx k d e.hash) noT).gs e.key e.hash).2.2,st.2.set (dx k d e.hash) (Bz (st.2.getD (dx k d e.hash) noT) e))
def dZ (k d:Nat)(st:bI×List aB)(es:List av):bI×List aB:=es.foldl (sG k d) st
def Fits (k d:Nat):List aB→List av→Prop
 |_,[]=>True
 |Ts,e::es=>(∃T,Ts[dx k d e.hash]?=some T∧Lh T e)∧Fits k d (Ts.set (dx k d e.hash) (Bz (Ts.getD (dx k d e.hash) noT) e)) es
theorem Qx (k d:Nat)(st:bI×List aB){es:List av}(h:es[j]?=some e):dZ k d st (es.take (j+1))=sG k d (dZ k d st (es.take j)) e:=by
 unfold dZ;rw[p8 h,List.foldl_append];rfl
theorem OT {d:Nat}:∀{es:List av} {x:bI} {Ts:List aB} {j:Nat} {e:av},Fits k d Ts es→es[j]?=some e→∃T,(dZ k d (x,Ts) (es.take j)).2[dx k d e.hash]?=some T∧Lh T e
 | [],_,_,_,_,_,h=>by simp at h
 |e0::es,x,Ts,0,e,hf,h=>by
  simp at h;subst h;exact hf.1
 |e0::es,x,Ts,j+1,e,hf,h=>by
  rw[List.getElem?_cons_succ]at h;have:=OT (x:=x.add cV (aI (Ts.getD (dx k d e0.hash) noT).gs e0.key e0.hash).2.2) hf.2 h;exact this
structure gP (w:World)(bs:List (Nat×Nat))(Ts:List aB):Prop where
 len:bs.length=Ts.length
 at_:∀(j:Nat) (b:Nat×Nat) (T:aB),bs[j]?=some b→Ts[j]?=some T→TabAt w b.1 b.2 T
 ne:∀(i j:Nat) (b c:Nat×Nat),bs[i]?=some b→bs[j]?=some c→i≠j→b.1≠c.1∧b.1≠c.2∧b.2≠c.1∧b.2≠c.2
def fE (bs:List (Nat×Nat)):List Nat:=bs.flatMap fun b=> [b.1,b.2]
theorem dJ:k∈fE bs↔∃b∈bs,k=b.1∨k=b.2:=by simp[fE]
theorem gP.mod (h:gP w bs Ts)(hm:Mod S w w')(hs:∀b∈bs,b.1∉S∧b.2∉S):gP w' bs Ts:=
 ⟨h.len,fun j b T hb hT=>(h.at_ j b T hb hT).mod hm (hs b (List.mem_of_getElem? hb)).1 (hs b (List.mem_of_getElem? hb)).2,h.ne⟩
theorem gP.ak (h:gP w bs Ts){b:Nat×Nat}{T':aB}(hb:bs[j]?=some b)(hT:TabAt w' b.1 b.2 T')(hm:Mod S w w')(hs:∀k∈S,k=b.1∨k=b.2∨∀c∈bs,k≠c.1∧k≠c.2):gP w' bs (Ts.set j T'):=by
 refine⟨by rw[List.length_set];exact h.len,fun i c T hc jy=> ?_,h.ne⟩;rw[List.getElem?_set]at jy;by_cases hij:j=i
 ·subst hij;rw[hb]at hc;cases hc;obtain⟨hlt,_⟩:=List.getElem?_eq_some_iff.1 hb;rw[if_pos rfl,if_pos (by rw[←h.len];exact hlt)]at jy;cases jy;exact hT
 ·rw[if_neg hij]at jy;have hne:=h.ne j i b c hb hc hij;have hcm:=List.mem_of_getElem? hc;refine(h.at_ i c T hc jy).mod hm (fun hk=> ?_) (fun hk=> ?_)
  ·rcases hs _ hk with e|e|e
   ·exact hne.1 e.symm
   ·exact hne.2.2.1 e.symm
   ·exact(e c hcm).1 rfl
  ·rcases hs _ hk with e|e|e
   ·exact hne.2.1 e.symm
   ·exact hne.2.2.2 e.symm
   ·exact(e c hcm).2 rfl
end
theorem Qy {W0:World}{E:Nat→Addr}(tb gb:Nat)(T:aB)(P:MP)(x:bI)(c:aZ)(g:Nat)(hg:g<T.gs.length)(hok:lD T)(w:World)(h:TabAt w tb gb T)(hM:aM w P x)(hE:Env W0 E w)(hmt:P.mb≠tb)(fZ:P.mb≠gb)(hb0:W0.heap.size≤P.mb)(hb1:W0.heap.size≤tb)(hb2:W0.heap.size≤gb):
  Calls Tryz.prog 289 #[bP tb,aG (some ⟨P.mb,P.mo,none⟩) c,nI g] w fun e w'=>∃A cc,e= .returned (.tuple #[.slice A (bO (T.gs.getD g [])).length cc,.nilIface])∧
   w'.ownsRow w.heap.size 159 3 (.slice A (bO (T.gs.getD g [])).length cc) (bO (T.gs.getD g [])).length ((bO (T.gs.getD g [])).flatMap aT)∧TabAt w' tb gb (takeN T g 8)∧aM w' P (x.add c 1)∧Mod [P.mb,tb,gb] w w':=by
 have hB:=(Below.refl w.heap.size w).alloc (Nat.le_refl _) (.cells #[.pointer (some ⟨P.mb,P.mo,none⟩),.int .i64 c.p,.int .i64 c.v,.int .i64 c.u] 163);have hL:=aj.new w 163 #[.pointer (some ⟨P.mb,P.mo,none⟩),.int .i64 c.p,.int .i64 c.v,.int .i64 c.u];obtain⟨W,hW⟩:∃W,W=w.alloc (.cells #[.pointer (some ⟨P.mb,P.mo,none⟩),.int .i64 c.p,.int .i64 c.v,.int .i64 c.u] 163):=⟨_,rfl⟩;rw[←hW]at hB hL;obtain⟨Iw,Iy,Iz,IB⟩:=hL.c4;have hml:=hM.lt;have htl:=h.aR;have hgl:=h.aS;have hB0:=hE.size;have HW:=qd hW
 have hg0:(g:Int)<(T.gs.length:Int):=by omega
 have rQ:=qd (Fz tb gb T P.mb P.mt P.pre P.post P.mo x.all x.last P.m c g hg W (h.below hB) (hM.below hB) hmt fZ);have IY:=qd hok;unfold bP aG bq at rQ;unfold bP aG;have HT:=qd (h.below hB);have ay:=qd (hE.next hB);have ah:=qd (Mod.of_below hB [P.mb,tb,gb]);clear hW hB h hM hL hE hok;generalize hGn:T.gs.getD g []=G;go_in;go_upto_region 1 with fail;rw[←HW.out];go_wp2_with fail;refine(rQ.out).mono ?_;rintro x w1 ⟨rfl,hM1,hm⟩;clear Iw Iy Iz IB;replace HT:=qM hm HT;replace ay:=qM hm ay;replace ah:=qU ah hm;clear hm;have HM:=qd (show aM w1 P (x.add c 1)from hM1);clear hM1;go_upto_region 4 with fail;have q1:=qJ HT.out.aR (qJ HT.out.aS (qJ HM.out.lt ah.out.size));refine dB 219 #[.pointer (some ⟨gb,g*25,none⟩)] ?_;rintro w2 ⟨hnew,hb⟩;obtain⟨vb,hvb⟩:∃vb,vb=w1.heap.size:=⟨_,rfl⟩;rw[←hvb]at hnew⊢
 replace hvb:w1.heap.size≤vb:=by omega
 replace HT:=qB hb HT;replace ay:=qB hb ay;replace HM:=qB hb HM;replace ah:=qT ah hb;have HV:=qd (hnew);clear hnew hb;have z5:=ah.out.size;have yR:=HV.out.cell 0;simp only[List.getElem?_toArray,List.getElem?_cons_zero]at yR;have bM:=qd (Dr gb 223 _ _ (g*25) _ w2 (HT.out.group g hg) ay.out.tz);rw[hGn]at bM;unfold bq at bM;go_wp2_with fail;refine(bM.out).mono ?_;rintro x w3 ⟨A,cc,rfl,hO,hb⟩;clear yR;replace HT:=qB hb HT;replace ay:=qB hb ay;replace HM:=qB hb HM;replace HV:=qB hb HV;replace ah:=qT ah hb;clear hb;have hwl:=ah.out.size;have HO:=qd (hO);clear hO;have q6:=qJ HT.out.aR (qJ HT.out.aS (qJ HM.out.lt HV.out.lt));clear HW;go_wp2;go_loopw [11,12,13,26] (fun _ _ _ i wr=>∃k:Nat,k≤8∧i= .int .i64 k∧TabAt wr tb gb (takeN T g k)∧aM wr P (x.add c 1)∧Env W0 E wr∧wr.ownsRow w2.heap.size 159 3 (.slice A (bO G).length cc) (bO G).length ((bO G).flatMap aT)∧aj wr vb 219 #[.pointer (some ⟨gb,g*25,none⟩)]∧Mod [P.mb,tb,gb] w wr) (fun _ _ _ i _=>8-(intOf i).toNat)
 case atStart=>exact⟨0,by omega,rfl,HT.out,HM.out,ay.out,HO.out,HV.out,ah.out⟩
 case round=>
  clear HT HM ay HO HV ah;obtain⟨k,hk,rfl,hT,hM,hE,hO,hV,hm⟩:=hrel;by_cases hlt:k<8
  ·have hlt':(k:Int)<8:=by omega
   have HT:=qd (hT);have HM:=qd (hM);have ay:=qd (hE);have HO:=qd (hO);have HV:=qd (hV);have ah:=qd (hm);clear hT hM hE hO hV hm
   have hgk:g<(takeN T g k).gs.length:=by rw[qR];exact hg
   have HG:=qd (HT.out.group g hgk);have HOe:=qd (IY.out.tkN g k);have yR:=HV.out.cell 0;simp only[List.getElem?_toArray,List.getElem?_cons_zero]at yR
   cases hsl:aF (takeN T g k).gs g k with
   |full e=>
    have jA:=qd (Dq gb 223 _ _ (g*25) _ wr HG.out k hlt e (by unfold aF at hsl;exact hsl));unfold bq aO at jA;clear HG;go_wp2_with fail;refine(jA.out).mono ?_;rintro x w4 ⟨rfl,hb⟩;clear yR;replace HT:=qB hb HT;replace HM:=qB hb HM;replace ay:=qB hb ay;replace HO:=qB hb HO;replace HV:=qB hb HV;replace ah:=qT ah hb;clear hb jA;go_upto_region 10 with fail;have q1:=qJ HT.out.aR (qJ HT.out.aS (qJ HM.out.lt (qJ HV.out.lt ah.out.size)));refine dB 159 #[nU e.key,nU e.val,nU e.hash] ?_;rintro w5 ⟨hnew,hb⟩;replace HT:=qB hb HT;replace HM:=qB hb HM;replace ay:=qB hb ay;replace HO:=qB hb HO;replace HV:=qB hb HV;replace ah:=qT ah hb;have HD:=qd (hnew);clear hnew hb;have yR:=HV.out.cell 0;simp only[List.getElem?_toArray,List.getElem?_cons_zero]at yR;have Yj:=qd (Dt tb gb (takeN T g k) g k hgk hlt e hsl HOe.out.small w5 HT.out);unfold bP Fv at Yj;clear HT HD;go_wp2_with fail;refine(Yj.out).mono ?_;rintro x w6 ⟨rfl,hT6,hm⟩;clear yR;replace HM:=qM hm HM;replace ay:=qM hm ay;replace HO:=qM hm HO;replace HV:=qM hm HV;replace ah:=qU ah hm;clear hm;have HT:=qd (hT6);clear hT6;have jK:=qd (show takeN T g (k+1)=iE (takeN T g k) g k from by show fH _ _ _=_;unfold fH;rw[hsl];rfl);clear hsl;go_wp2;go_roundw
    case rel=>exact⟨k+1,by omega,by go_num,by rw[jK.out];exact HT.out,HM.out,ay.out,HO.out,HV.out,ah.out⟩
    case measure=>simp[intOf];omega
   |empty=>
    have jA:=qd (Iq gb 223 _ _ (g*25) _ wr HG.out k hlt (by unfold aF at hsl;rw[hsl];rfl) E (ay.out.errs.at_ 5 (by omega) (by omega)));unfold bq aO at jA;clear HG;go_wp2_with fail;refine(jA.out).mono ?_;rintro x w4 ⟨rfl,hb⟩;clear yR;replace HT:=qB hb HT;replace HM:=qB hb HM;replace ay:=qB hb ay;replace HO:=qB hb HO;replace HV:=qB hb HV;replace ah:=qT ah hb;clear hb jA;have jK:=qd (show takeN T g (k+1)=takeN T g k from by show fH _ _ _=_;unfold fH;rw[hsl];rfl);clear hsl;go_upto_region 11 with fail;have q1:=qJ HT.out.aR (qJ HT.out.aS (qJ HM.out.lt (qJ HV.out.lt ah.out.size)));refine dB 159 #[.int .u64 0,.int .u64 0,.int .u64 0] ?_;rintro w5 ⟨hnew,hb⟩;replace HT:=qB hb HT;replace HM:=qB hb HM;replace ay:=qB hb ay;replace HO:=qB hb HO;replace HV:=qB hb HV;replace ah:=qT ah hb;have HD:=qd (hnew);clear hnew hb;go_wp2;go_roundw
    case rel=>exact⟨k+1,by omega,by go_num,by rw[jK.out];exact HT.out,HM.out,ay.out,HO.out,HV.out,ah.out⟩
    case measure=>simp[intOf];omega
   |oH=>
    have jA:=qd (Iq gb 223 _ _ (g*25) _ wr HG.out k hlt (by unfold aF at hsl;rw[hsl];rfl) E (ay.out.errs.at_ 5 (by omega) (by omega)));unfold bq aO at jA;clear HG;go_wp2_with fail;refine(jA.out).mono ?_;rintro x w4 ⟨rfl,hb⟩;clear yR;replace HT:=qB hb HT;replace HM:=qB hb HM;replace ay:=qB hb ay;replace HO:=qB hb HO;replace HV:=qB hb HV;replace ah:=qT ah hb;clear hb jA;have jK:=qd (show takeN T g (k+1)=takeN T g k from by show fH _ _ _=_;unfold fH;rw[hsl];rfl);clear hsl;go_upto_region 11 with fail;have q1:=qJ HT.out.aR (qJ HT.out.aS (qJ HM.out.lt (qJ HV.out.lt ah.out.size)));refine dB 159 #[.int .u64 0,.int .u64 0,.int .u64 0] ?_;rintro w5 ⟨hnew,hb⟩;replace HT:=qB hb HT;replace HM:=qB hb HM;replace ay:=qB hb ay;replace HO:=qB hb HO;replace HV:=qB hb HV;replace ah:=qT ah hb;have HD:=qd (hnew);clear hnew hb;go_wp2;go_roundw
    case rel=>exact⟨k+1,by omega,by go_num,by rw[jK.out];exact HT.out,HM.out,ay.out,HO.out,HV.out,ah.out⟩
    case measure=>simp[intOf];omega
  ·obtain rfl:k=8:=by omega
   have HF:=qd (And.intro hT (And.intro hM (And.intro (pE hO (show w.heap.size≤w2.heap.size by omega)) hm)));clear hT hM hE hO hV hm
   have hlt':¬((8:Nat):Int)<8:=by omega
   go_wp2;refine bodyPost_ret (v:= .tuple #[.slice A (bO G).length cc,.nilIface]) (by simp[results,Tryz.results289,go_sem]) rfl ⟨A,cc,rfl,HF.out.2.2.1,HF.out.1,HF.out.2.1,HF.out.2.2.2⟩
theorem SN {W0:World}{E:Nat→Addr}(eb tb gb vb cap:Nat)(depth next:Nat)(bs:List (Nat×Nat))(T:aB)(Ts:List aB)(P:MP)(x:bI)(hk:1≤bs.length∧bs.length≤2)(hd:depth≤15)(w:World)
  (h:kV w eb tb vb cap (bs.map Prod.fst) depth next) (ht:TabAt w tb gb T) (hok:lD T) (hn:next<T.gs.length) (hts:gP w bs Ts) (hfit:Fits bs.length depth Ts (bO (T.gs.getD next [])))
  (hM:aM w P x) (hE:Env W0 E w) (hbd:∀b∈bs,b.1∉[P.mb,eb,vb,tb,gb]∧b.2∉[P.mb,eb,vb,tb,gb]) (hmd:P.mb∉[eb,vb,tb,gb]) (hed:eb∉[vb,tb,gb]) (hvd:vb∉[tb,gb])
  (hb0:W0.heap.size≤P.mb) (hb1:W0.heap.size≤tb) (hb2:W0.heap.size≤gb) (_:W0.heap.size≤eb) (hb4:∀b∈bs,W0.heap.size≤b.1∧W0.heap.size≤b.2):
  Calls Tryz.prog 285 #[pQ eb,.pointer (some ⟨P.mb,P.mo,none⟩)] w fun e w'=>e= .returned (.bool true)∧kV w' eb tb vb cap (bs.map Prod.fst) depth (next+1)∧TabAt w' tb gb (takeN T next 8)∧
   gP w' bs (dZ bs.length depth ((x.add (cU 1) 1).add cV 1,Ts) (bO (T.gs.getD next []))).2∧aM w' P (dZ bs.length depth ((x.add (cU 1) 1).add cV 1,Ts) (bO (T.gs.getD next []))).1∧Mod (P.mb::eb::tb::gb::fE bs) w w':=by
 simp only[List.mem_cons,List.not_mem_nil,or_false,not_or]at hmd hed hvd hbd;have hml:=hM.lt;have hB0:=hE.size;have iX:=qd (IX eb tb gb vb cap _ depth next T w h ht (by omega) hok.pow.le);have hle:=hok.pow.le
 obtain⟨dn,hdn⟩:∃dn,dn=T.gs.length-next:=⟨_,rfl⟩
 rw[←hdn]at iX
 have hd0:¬(dn:Int)=0:=by omega
 have hd1:¬dn=0:=by omega
 obtain⟨bn,hbn⟩:∃bn,bn=(bs.map Prod.fst).length:=⟨_,rfl⟩;have hbl:(bs.map Prod.fst).length=bs.length:=List.length_map ..;have IY:=qd hok
 have hbs:∀b∈bs,b.1<w.heap.size∧b.2<w.heap.size:=fun b hb=>by
  obtain⟨j,hj⟩:=List.getElem?_of_mem hb;obtain⟨hlt,_⟩:=List.getElem?_eq_some_iff.1 hj
  have hlt2:j<Ts.length:=by rw[←hts.len];exact hlt
  have:=hts.at_ j b Ts[j] hj (List.getElem?_eq_getElem hlt2);exact⟨this.aR,this.aS⟩
 obtain⟨es,hes⟩:∃es,es=bO (T.gs.getD next []):=⟨_,rfl⟩;rw[←hes]at hfit⊢;have Yi:=qd hes;clear hes;have mh:=qd hbd;have HV:=qd (h);have HT:=qd (ht);have dG:=qd (hts);have ay:=qd (hE);have HM:=qd (hM);have ah:=qd (Mod.refl (P.mb::eb::tb::gb::fE bs) w);have HF:=qd hfit;clear h ht hts hE hM hok hdn hfit;have q1:=qJ HV.out.lt (qJ HV.out.oz (qJ HT.out.aR (qJ HT.out.aS HM.out.lt)));go_in;go_upto_region 1 with fail;go_wp2_with fail;refine(iX.out).mono ?_;rintro y w1 ⟨rfl,hw1⟩;have hm:Mod [] w w1:=hw1▸Mod.drewN [] w 1;clear hw1 iX;replace HV:=qM hm HV;replace HT:=qM hm HT;replace dG:=qd (dG.out.mod hm (fun b hb=>by have hh:=hbd b hb;simp<;>omega));replace ay:=qM hm ay;replace HM:=qM hm HM;have z6:=(hm).size;replace ah:=qU ah hm;clear hm;have HU:=qd (qO P.mb P.mt P.pre P.post P.mo _ _ P.m 1 (by omega) w1 HM.out);clear HM;go_wp2_with fail;refine(HU.out).mono ?_;rintro x w2 ⟨rfl,hM2,hm⟩;replace HV:=qM hm HV;replace HT:=qM hm HT;replace dG:=qd (dG.out.mod hm (fun b hb=>by have hh:=hbd b hb;simp<;>omega));replace ay:=qM hm ay;have z7:=(hm).size;replace ah:=qU ah hm;clear hm;have HM:=qd (show aM w2 P (x.add (cU 1) 1)from hM2);clear hM2 HU;go_upto_region 4 with fail;have hEb:=HV.out.blk;rw[←hbn]at hEb;have p9:=qd (hEb);clear hEb;have ec:=p9.out.c4;refine rT (fun(w':World)=>w'.cell? ⟨eb,0,none⟩=some (pQ tb)∧w'.cell? ⟨eb,3,none⟩=some (nI next)) [] ?_;have hHeld:=(⟨ec.1,ec.2.2.2⟩:_∧_);refine vW 0 rfl ?_;refine vW 1 rfl ?_;refine vW 2 rfl ?_;refine vT 3 rfl ?_;refine vW 4 rfl ?_
 refine vW 6 rfl ?_;refine vW 7 rfl ?_;refine vW 8 rfl ?_;refine vT 9 rfl ?_;refine vW 15 rfl ?_;refine nT 5 rfl fun K hK=> ?_;go_simp;refine(uq (some ⟨P.mb,P.mo,none⟩) _).mono ?_;rintro y w3 ⟨rfl,hb⟩;replace hb:Below w2.heap.size w2 w3:=bR hb (Below.refl _ _).drew;unfold aG;clear ec;replace HV:=qB hb HV;replace HT:=qB hb HT;replace dG:=qd (dG.out.mod (Mod.of_below hb []) (by simp));replace ay:=qB hb ay;replace HM:=qB hb HM;replace p9:=qB hb p9;have z8:=(hb).size;replace ah:=qT ah hb;clear hb;have ec:=p9.out.c4;go_wp2_with fail;have hHeld:=(⟨ec.1,ec.2.2.2⟩:_∧_);refine kO hK ?_;clear hK K;refine nT 10 rfl fun K hK=> ?_;go_simp;have qc:=qd (Qy tb gb T P (x.add (cU 1) 1) cV next hn IY.out w3 HT.out HM.out ay.out (by omega) (by omega) hb0 hb1 hb2);unfold bP aG cV at qc;refine(qc.out).mono ?_;rintro y w4 ⟨A,cc,rfl,vO,OM,Fy,hm⟩;clear qc HT HM ec;replace HV:=qM hm HV;replace dG:=qd (dG.out.mod hm (fun b hb=>by have hh:=hbd b hb;simp<;>omega));replace ay:=qM hm ay;replace p9:=qM hm p9;have z9:=(hm).size;replace ah:=qU ah hm;have HT:=qd (OM);have HM:=qd (Fy);have fV:=qd (vO);clear OM Fy vO hm;have ec:=p9.out.c4;rw[←Yi.out]at fV⊢;go_wp2_with fail;have hHeld:=(⟨ec.1,ec.2.2.2⟩:_∧_);refine kO hK ?_;clear hK K;refine vW 11 rfl ?_;refine vW 12 rfl ?_;refine nT 13 rfl fun K hK=> ?_;go_simp;refine(SH A es.length cc w4).mono ?_;rintro y w5 ⟨rfl,rfl⟩;go_wp2_with fail;have hHeld:=(⟨ec.1,ec.2.2.2⟩:_∧_);refine kO hK ?_;clear hK K;refine vW 14 rfl ?_;refine aQ (by kernel_rfl) ?_ _
 have acM:es.length≤8:=by have h1:=wQ (T.gs.getD next []);have h2:=IY.out.wide.at_ hn;rw[Yi.out];omega
 clear hd0 hd1;go_wp2;clear ec p9;obtain⟨st0,Li⟩:∃st0:bI×List aB,st0=((x.add (cU 1) 1).add cV 1,Ts):=⟨_,rfl⟩;go_loopw [6,7,8,29] (fun _ _ _ i wr=>∃j:Nat,j≤es.length∧i= .int .i64 j∧kV wr eb tb vb cap (bs.map Prod.fst) depth next∧TabAt wr tb gb (takeN T next 8)∧gP wr bs (dZ bs.length depth st0 (es.take j)).2∧aM wr P (dZ bs.length depth st0 (es.take j)).1∧Env W0 E wr∧wr.ownsRow w3.heap.size 159 3 (.slice A es.length cc) es.length (es.flatMap aT)∧Mod (P.mb::eb::tb::gb::fE bs) w wr) (fun _ _ _ i _=>es.length-(intOf i).toNat)
 case atStart=>exact⟨0,by omega,rfl,HV.out,HT.out,by rw[Li];exact dG.out,by rw[Li];exact HM.out,ay.out,fV.out,ah.out⟩
 case round=>
  clear HV HT dG HM ay fV ah;obtain⟨j,hj,rfl,hV,hT,hTs,hM,hE,vO,hm⟩:=hrel;by_cases hlt:j<es.length
  ·have hlt':(j:Int)<(es.length:Int):=by omega
   have hj0:(0:Int)≤(j:Int):=by omega
   obtain⟨e,he⟩:∃e,es[j]?=some e:=⟨_,List.getElem?_eq_getElem hlt⟩;obtain⟨g,rfl,hgb,k0,k1,k2,hjn⟩:=IV vO he;have dU:=qd (Qx bs.length depth st0 he);obtain⟨T1,hT1,hcp⟩:=OT (x:=(x.add (cU 1) 1).add cV 1) HF.out he;rw[←Li]at hT1;clear he hjn;obtain⟨st,hst⟩:∃st,st=dZ bs.length depth st0 (es.take j):=⟨_,rfl⟩;rw[←hst]at hTs hM dU hT1;clear hst;obtain⟨sd,hsd⟩:∃sd,sd=dx bs.length depth e.hash:=⟨_,rfl⟩;have HSd:=qd hsd;rw[←hsd]at hT1;clear hsd;obtain⟨b,hb⟩:∃b,bs[sd]?=some b:=⟨_,List.getElem?_eq_getElem (by rw[hTs.len];exact(List.getElem?_eq_some_iff.1 hT1).1)⟩;have nP:=List.mem_of_getElem? hb;have hbb:=hbd b nP;have ael:=hbs b nP;have aem:=hb4 b nP;have Dx:=qd hb;have HT1:=qd hT1;have jQ:=qd hcp;clear hb hT1 hcp;have HV:=qd (hV);have HT:=qd (hT);have dG:=qd (hTs);have HM:=qd (hM);have ay:=qd (hE);have fV:=qd (vO);have ah:=qd (hm);clear hV hT hTs hM hE vO hm;have OU:=qd (fun(V:World) (hV:kV V eb tb vb cap (bs.map Prod.fst) depth next)=>Dw eb tb vb cap (bs.map Prod.fst) depth next e.hash b.1 (by rw[List.length_map];exact hk) hd jQ.out.h64 (by rw[List.length_map,←HSd.out,List.getElem?_map,Dx.out];rfl) V hV);unfold bP at OU;go_upto_region 7 with fail;have q1:=qJ HV.out.lt (qJ HV.out.oz (qJ HT.out.aR (qJ HT.out.aS (qJ HM.out.lt ah.out.size))));refine dB 159 #[nU e.key,nU e.val,nU e.hash] ?_;rintro w6 ⟨hnew,hb⟩;obtain⟨xb,hxb⟩:∃xb,xb=wr.heap.size:=⟨_,rfl⟩;rw[←hxb]at hnew⊢
   replace hxb:wr.heap.size≤xb:=by omega
   clear k0 k1 k2;replace HV:=qB hb HV;replace HT:=qB hb HT;replace dG:=qd (dG.out.mod (Mod.of_below hb []) (by simp));replace HM:=qB hb HM;replace ay:=qB hb ay;replace fV:=qB hb fV;have z7:=(hb).size;replace ah:=qT ah hb;have HX:=qd (hnew);clear hnew hb;have xc:=HX.out.c3;obtain⟨i,s,hfr⟩:=jQ.out.free;have K9:=qd hfr;clear hfr;refine rT (fun(w':World)=>w'.cell? ⟨xb,0,none⟩=some (nU e.key)∧w'.cell? ⟨xb,1,none⟩=some (nU e.val)∧w'.cell? ⟨xb,2,none⟩=some (nU e.hash)) [] ?_;have hHeld:=(⟨xc.1,xc.2.1,xc.2.2⟩:_∧_∧_);refine vW 0 rfl ?_;refine vW 1 rfl ?_;refine vT 2 rfl ?_;refine vW 4 rfl ?_;refine vT 6 rfl ?_;refine nT 3 rfl fun K hK=> ?_;go_simp;refine(OU.out _ (HV.out.mod (Mod.drewN [] w6 1) (by simp) (by simp))).mono ?_;rintro y w7 ⟨rfl,hb⟩;replace hb:Below w6.heap.size w6 w7:=bR hb (Below.refl _ _).drew;clear xc;replace HV:=qB hb HV;replace HT:=qB hb HT;replace dG:=qd (dG.out.mod (Mod.of_below hb []) (by simp));replace HM:=qB hb HM;replace ay:=qB hb ay;replace fV:=qB hb fV;replace HX:=qB hb HX;have z8:=(hb).size;replace ah:=qT ah hb;clear hb;have xc:=HX.out.c3;go_wp2_with fail;have hHeld:=(⟨xc.1,xc.2.1,xc.2.2⟩:_∧_∧_);refine kO hK ?_;clear hK K;refine nT 5 rfl fun K hK=> ?_;go_simp;refine(uq (some ⟨P.mb,P.mo,none⟩) _).mono ?_;rintro y w8 ⟨rfl,hb⟩;unfold aG;clear xc;replace HV:=qB hb HV;replace HT:=qB hb HT;replace dG:=qd (dG.out.mod (Mod.of_below hb []) (by simp));replace HM:=qB hb HM;replace ay:=qB hb ay;replace fV:=qB hb fV;replace HX:=qB hb HX;have z9:=(hb).size
   replace ah:=qT ah hb;clear hb;have xc:=HX.out.c3;go_wp2_with fail;have hHeld:=(⟨xc.1,xc.2.1,xc.2.2⟩:_∧_∧_);refine kO hK ?_;clear hK K;refine nT 7 rfl fun K hK=> ?_;go_simp;have wZ:=qd (JY b.1 b.2 T1 P.mb P.mt P.pre P.post P.mo st.1.all st.1.last P.m cV e w8 (dG.out.at_ sd b T1 Dx.out HT1.out) jQ.out.ok.pow jQ.out.h64 HM.out (by omega) (by omega) ay.out.tz (by have:=ay.out.Lc;omega) jQ.out.none_ i s K9.out jQ.out.ok.small jQ.out.room);unfold bP aG aO cV at wZ;refine(wZ.out).mono ?_;rintro y w9 ⟨rfl,hT9,hM9,hm⟩;clear wZ HM;have aaB:=dG.out.ak Dx.out hT9 hm (by intro q hq;simp at hq;rcases hq with rfl|rfl|rfl;exact .inr (.inr (fun c hc=>by have:=hbd c hc;omega));exact .inl rfl;exact .inr (.inl rfl));clear dG hT9;have hm0:Mod (P.mb::eb::tb::gb::fE bs) w8 w9:=hm.more (by intro q hq;simp at hq;rcases hq with rfl|rfl|rfl;simp;simp[dJ];exact .inr (.inr (.inr (.inr ⟨_,_,nP,.inl rfl⟩)));simp[dJ];exact .inr (.inr (.inr (.inr ⟨_,_,nP,.inr rfl⟩))));have SQ:=ah;clear ah;have ah:=qd (Mod.refl [P.mb,b.1,b.2] w8);clear xc;replace HV:=qM hm HV;replace HT:=qM hm HT;replace ay:=qM hm ay;replace fV:=qM hm fV;replace HX:=qM hm HX;have z10:=(hm).size;replace ah:=qU ah hm;clear ah;have ah:=qd (SQ.out.then hm0);clear SQ hm0 hm;have dG:=qd (aaB);have HM:=qd (show aM w9 P (st.1.add cV (aI T1.gs e.key e.hash).2.2)from hM9);clear aaB hM9;have xc:=HX.out.c3;go_wp2_with fail;have hHeld:=(⟨xc.1,xc.2.1,xc.2.2⟩:_∧_∧_);refine kO hK ?_;clear hK K;refine vW 8 rfl ?_;refine vW 9 rfl ?_;refine vW 10 rfl ?_
   refine vW 11 rfl ?_;refine vW 12 rfl ?_;refine aQ (by kernel_rfl) ?_ _
   have hgd:st.2.getD sd noT=T1:=by rw[List.getD_eq_getElem?_getD,HT1.out];rfl
   have jK:=qd (show dZ bs.length depth st0 (es.take (j+1))=(st.1.add cV (aI T1.gs e.key e.hash).2.2,st.2.set sd (jf T1 i s e))from by rw[dU.out];unfold sG;rw[←HSd.out,hgd];unfold Bz;rw[K9.out]);clear hgd;have BA:=qd (Bw w9);go_wp2_with fail;refine(BA.out).mono ?_;rintro y w10 ⟨rfl,rfl⟩;clear xc;go_wp2;go_roundw
   case rel=>exact⟨j+1,by omega,by go_num,HV.out,HT.out,by rw[jK.out];exact dG.out,by rw[jK.out];exact HM.out,ay.out,fV.out,ah.out⟩
   case measure=>simp[intOf];omega
  ·obtain rfl:j=es.length:=by omega
   have hlt':¬(es.length:Int)<(es.length:Int):=by omega
   rw[List.take_length]at hTs hM;have p9:=qd (hV.blk);have HW:=qd (hV.row);have HT:=qd (hT);have dG:=qd (hTs);have HM:=qd (hM);have ah:=qd (hm);clear hV hT hTs hM hE vO hm;have q1:=qJ p9.out.lt (qJ HW.out.lt (qJ HT.out.aR (qJ HT.out.aS HM.out.lt)));have ec:=p9.out.c4;have ef:=p9.out.f4;go_upto_region 11 with fail;have q6:=qJ p9.out.lt (qJ HW.out.lt (qJ HT.out.aR (qJ HT.out.aS HM.out.lt)));refine EY p9.out ?_;rintro w11 ⟨hnew,hm⟩;simp only[pt]at hnew;clear ec ef;replace HW:=qM hm HW;replace HT:=qM hm HT;replace dG:=qd (dG.out.mod hm (fun b hb=>by have hh:=hbd b hb;simp<;>omega));replace HM:=qM hm HM;have z11:=(hm).size;replace ah:=qU ah hm;replace p9:=qd hnew;clear hnew hm;go_wp2;go_ret;exact⟨rfl,⟨p9.out,HW.out⟩,HT.out,by rw[←Li];exact dG.out,by rw[←Li];exact HM.out,ah.out⟩
section
def oC (n k i:Nat):Nat:=min n (k-i*n)
def bD (db rb ob og:Nat)(bl:List (Nat×Nat×Nat)):List Nat:=db::rb::ob::og::bl.flatMap fun b=> [b.1,b.2.1,b.2.2]
structure tK (w:World)(db rb cap ob og:Nat)(bl:List (Nat×Nat×Nat))(T:aB)(n depth k:Nat):Prop where
 blk:aj w db 301 #[pQ ob,nI depth,.slice (some ⟨rb,0,none⟩) bl.length cap,.slice none 0 0,.pointer none,.bool false]
 row:eU w rb (bl.map fun b=>b.1)
 oI:∀(i:Nat) (b:Nat×Nat×Nat),bl[i]?=some b→eZ w b.1 b.2.1 b.2.2 n (oC n k i)
 tab:TabAt w ob og T
 pow:Pw n
 many:1≤bl.length∧bl.length≤2
 lt:k<n*bl.length
 deep:depth≤15
 nd:(bD db rb ob og bl).Nodup
def aU (db rb fb eb vb ob og:Nat)(bF:List Nat)(bs:List (Nat×Nat)):List Nat:=db::rb::fb::eb::vb::ob::og::(bF++fE bs)
structure nQ (w:World)(db rb cap ob og fb bU eb vb bX:Nat)(bF:List Nat)(bs:List (Nat×Nat))(T:aB)(Ts:List aB)(n depth next:Nat):Prop where
 blk:aj w db 301 #[pQ ob,nI depth,.slice (some ⟨rb,0,none⟩) bF.length cap,.slice (some ⟨fb,0,none⟩) bs.length bU,pQ eb,.bool false]
 row:eU w rb bF
 oI:∀b∈bF,aj w b 331 #[.pointer none,nI n,nI n]
 fresh:eU w fb (bs.map Prod.fst)
 ev:kV w eb ob vb bX (bs.map Prod.fst) depth next
 tab:TabAt w ob og T
 tabs:gP w bs Ts
 pow:Pw n
 many:1≤bs.length∧bs.length≤2
 eq:bF.length=bs.length
 deep:depth≤15
 nd:(aU db rb fb eb vb ob og bF bs).Nodup
section
variable {w w' : World} {db rb cap ob og fb bU eb vb bX : Nat} {bl : List (Nat × Nat × Nat)} {bF : List Nat} {bs : List (Nat × Nat)} {T : aB} {Ts : List aB} {n depth k next : Nat}
theorem tL {b:Nat×Nat×Nat}(h:b∈bl):b.1∈bD db rb ob og bl∧b.2.1∈bD db rb ob og bl∧b.2.2∈bD db rb ob og bl:=by
 have h0:∀q∈[b.1,b.2.1,b.2.2],q∈bl.flatMap fun b=> [b.1,b.2.1,b.2.2]:=fun q hq=>List.mem_flatMap.2 ⟨b,h,hq⟩;have h1:=h0 b.1 (by simp);have h2:=h0 b.2.1 (by simp);have h3:=h0 b.2.2 (by simp);unfold bD;simp only[List.mem_cons];exact⟨.inr (.inr (.inr (.inr h1))),.inr (.inr (.inr (.inr h2))),.inr (.inr (.inr (.inr h3)))⟩
theorem tK.mod {S:List Nat}(h:tK w db rb cap ob og bl T n depth k)(hm:Mod S w w')(hs:∀q∈bD db rb ob og bl,q∉S):tK w' db rb cap ob og bl T n depth k:=
 ⟨h.blk.mod hm (hs _ (by simp[bD])),h.row.mod hm (hs _ (by simp[bD])),fun i b hb=>by
  obtain⟨h1,h2,h3⟩:=tL (db:=db) (rb:=rb) (ob:=ob) (og:=og) (List.mem_of_getElem? hb)
  exact(h.oI i b hb).mod hm (hs _ h1) (hs _ h2) (hs _ h3),
  h.tab.mod hm (hs _ (by simp[bD])) (hs _ (by simp[bD])),h.pow,h.many,h.lt,h.deep,h.nd⟩
theorem nQ.mod {S:List Nat}(h:nQ w db rb cap ob og fb bU eb vb bX bF bs T Ts n depth next)(hm:Mod S w w')(hs:∀q∈aU db rb fb eb vb ob og bF bs,q∉S):nQ w' db rb cap ob og fb bU eb vb bX bF bs T Ts n depth next:=
 ⟨h.blk.mod hm (hs _ (by simp[aU])),h.row.mod hm (hs _ (by simp[aU])),fun b hb=>(h.oI b hb).mod hm (hs _ (by unfold aU;simp[hb])),h.fresh.mod hm (hs _ (by simp[aU])),
  h.ev.mod hm (hs _ (by simp[aU])) (hs _ (by simp[aU])),h.tab.mod hm (hs _ (by simp[aU])) (hs _ (by simp[aU])),
  h.tabs.mod hm (fun b hb=>⟨hs _ (by unfold aU;simp[dJ];exact .inr (.inr (.inr (.inr (.inr (.inr (.inr (.inr ⟨_,_,hb,.inl rfl⟩)))))))),hs _ (by unfold aU;simp[dJ];exact .inr (.inr (.inr (.inr (.inr (.inr (.inr (.inr ⟨_,_,hb,.inr rfl⟩))))))))⟩),h.pow,h.many,h.eq,h.deep,h.nd⟩
end
def bT (db:Nat):Value:=pQ db
def qg (n k:Nat):Nat→Nat
 |0=>0
 |j+1=>qg n k j+(n-oC n k j)
theorem zJ (n k:Nat):∀j,qg n k j=n*j-min k (n*j)
 |0=>by simp[qg]
 |j+1=>by
  have h1:=zJ n k j;unfold qg oC;rw[h1,Nat.mul_comm j n,Nat.mul_succ];generalize n*j=m;omega
theorem uy (db:Nat)(w:World)(h:w.cell? ⟨db,3,none⟩=some (.slice none 0 0)):
  Calls Tryz.prog 202 #[bT db] w fun e w'=>e= .returned (.bool false)∧w=w':=by
 unfold bT;go_in;go_wp2;go_ret;exact⟨rfl,rfl⟩
theorem sH (db fb fn bU:Nat)(w:World)(h:w.cell? ⟨db,3,none⟩=some (.slice (some ⟨fb,0,none⟩) fn bU)):
  Calls Tryz.prog 202 #[bT db] w fun e w'=>e= .returned (.bool true)∧w=w':=by
 unfold bT;go_in;go_wp2;go_ret;exact⟨rfl,rfl⟩
theorem J3 (db rb cap ob og:Nat)(bl:List (Nat×Nat×Nat))(T:aB)(n depth k:Nat)(w:World)(h:tK w db rb cap ob og bl T n depth k)(hgl:T.gs.length≤64):
  Calls Tryz.prog 242 #[bT db] w fun e w'=>e= .returned (.int .i64 ((T.gs.length+(n*bl.length-k):Nat):Int))∧Below w.heap.size w w':=by
 have aen:=h.lt;have HB:=qd (h.blk);have HR:=qd (h.row);have HT:=qd (h.tab);have ah:=qd (Mod.refl [] w);obtain⟨many1,adJ⟩:=h.many;have BD:=qd (show∀V,Below w.heap.size w V→∀(i:Nat) (b:Nat×Nat×Nat),bl[i]?=some b→eZ V b.1 b.2.1 b.2.2 n (oC n k i)from fun V hV i b hb=>(h.oI i b hb).mod (Mod.of_below hV []) (by simp) (by simp) (by simp));have VW:=h.pow.le;clear h;obtain⟨g0,hg0⟩:∃g0,g0=T.gs.length:=⟨_,rfl⟩;rw[←hg0]at hgl⊢;unfold bT;have bc:=HB.out.c6;have lF:=qd (uy db w bc.2.2.2.1);unfold bT at lF;have HG:=qd (qP ob og T w HT.out);rw[←hg0]at HG;unfold bP at HG;clear hg0;go_in;go_wp2_with fail;refine(lF.out).mono ?_;rintro y w1 ⟨rfl,rfl⟩;clear lF;go_wp2_with fail;refine(HG.out).mono ?_;rintro y w1 ⟨rfl,rfl⟩;clear HG;go_wp2;clear bc;have acO:=HR;clear HB HR HT ah;go_loopw [3,5,23] (fun v3 _ i wr=>∃j:Nat,j≤bl.length∧i= .int .i64 j∧v3= .int .i64 ((g0+qg n k j:Nat):Int)∧Below w.heap.size w wr) (fun _ _ i _=>bl.length-(intOf i).toNat)
 case atStart=>exact⟨0,by omega,rfl,by simp[qg],Below.refl _ _⟩
 case round=>
  obtain⟨j,hj,rfl,rfl,hm⟩:=hrel;by_cases hlt:j<bl.length
  ·have hlt':(j:Int)<(bl.length:Int):=by omega
   have hj0:(0:Int)≤(j:Int):=by omega
   obtain⟨b,hb⟩:∃b,bl[j]?=some b:=⟨_,List.getElem?_eq_getElem hlt⟩;have hbl:=BD.out wr hm j b hb;have hc:=(acO.out.mod (Mod.of_below hm []) (by simp)).at_ j b.1 (by rw[List.getElem?_map,hb];rfl);have hkl:oC n k j≤n:=Nat.min_le_left _ _
   have hsl:qg n k j≤128:=by rw[zJ];have:n*j≤64*2:=Nat.mul_le_mul VW (by omega);omega
   have HC:=qd (qV b.1 n (oC n k j) _ wr hkl VW hbl.blk);unfold nu at HC;have Hm:=qd hm;clear hm hb hbl;go_wp2_with fail;refine(HC.out).mono ?_;rintro y w2 ⟨rfl,hw2⟩;have SE:=qd (show Below w.heap.size w w2 from by rw[←hw2];exact Hm.out.trans ((Below.refl _ _).drew.mono Hm.out.size));clear hw2;go_wp2;go_roundw
   case rel=>exact⟨j+1,by omega,by go_num,by first|go_num|(simp[qg];omega),SE.out⟩
   case measure=>simp[intOf];omega
  ·obtain rfl:j=bl.length:=by omega
   have hlt':¬(bl.length:Int)<(bl.length:Int):=by omega
   go_wp2;go_ret;exact⟨gK (by have:=zJ n k bl.length;omega),hm⟩
theorem pq (db rb cap ob og fb bU eb vb bX:Nat)(bF:List Nat)(bs:List (Nat×Nat))(T:aB)(Ts:List aB)(n depth next:Nat)(w:World)(h:nQ w db rb cap ob og fb bU eb vb bX bF bs T Ts n depth next)(hgl:T.gs.length≤64)(hnx:next≤T.gs.length):
  Calls Tryz.prog 242 #[bT db] w fun e w'=>e= .returned (.int .i64 ((T.gs.length-next:Nat):Int))∧w.drew=w':=by
 have bc3:=h.blk.cell 3;have bc4:=h.blk.cell 4;simp only[gl]at bc3 bc4;have lF:=qd (sH db fb bs.length bU w bc3);have HL:=qd (IX eb ob og vb bX _ depth next T w h.ev h.tab hnx hgl);unfold bT at lF⊢;clear h;go_in;go_wp2_with fail;refine(lF.out).mono ?_;rintro y w1 ⟨rfl,rfl⟩;go_wp2_with fail;refine(HL.out).mono ?_;rintro y w1 ⟨rfl,rfl⟩;go_wp2;go_ret;exact⟨rfl,rfl⟩
end
end Go.Proofs.YtgkeameopnpinaaGreatDoor
