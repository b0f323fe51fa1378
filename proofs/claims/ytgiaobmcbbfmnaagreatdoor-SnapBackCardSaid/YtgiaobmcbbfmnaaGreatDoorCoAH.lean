/- Package evac by its contracts. -/
import Derived.Test.YtgiaobmcbbfmnaaGreatDoorCoAE
import Derived.Test.YtgiaobmcbbfmnaaGreatDoorSqT
import Derived.Test.YtgiaobmcbbfmnaaGreatDoorSq
import Derived.Test.YtgiaobmcbbfmnaaGreatDoorCoAB
import Derived.Test.YtgiaobmcbbfmnaaGreatDoorKit2
namespace Go.Proofs.YtgiaobmcbbfmnaaGreatDoor
set_option maxRecDepth 100000
set_option maxHeartbeats 8000000
open Go.RowKit dw Go
section
variable {w : World} {cap depth eb next tb vb : Nat} {ts : List Nat}
def cZ (k depth hash:Nat):Nat:=if k=1 then 0 else uM hash depth
structure lG (w:World)(eb tb vb cap:Nat)(ts:List Nat)(depth next:Nat):Prop where
 blk:aj w eb 356 #[.pointer (some ⟨tb,0,none⟩),.slice (some ⟨vb,0,none⟩) ts.length cap,.int .i64 (depth:Int),.int .i64 (next:Int)]
 row:eP w vb ts
theorem lG.mod {S:List Nat}{w':World}(h:lG w eb tb vb cap ts depth next)(hm:Mod S w w')(h1:eb∉S)(h2:vb∉S):lG w' eb tb vb cap ts depth next:=⟨h.blk.mod hm h1,h.row.mod hm h2⟩
instance {w w':World}{eb tb vb cap:Nat}{ts:List Nat}{depth next:Nat}:Md (lG w eb tb vb cap ts depth next) w w' (lG w' eb tb vb cap ts depth next) (fun S=>eb∉S∧vb∉S):=⟨fun h hm hs=>h.mod hm hs.1 hs.2⟩
theorem lG.lt (h:lG w eb tb vb cap ts depth next):eb<w.heap.size:=h.blk.lt
theorem lG.pV (h:lG w eb tb vb cap ts depth next):vb<w.heap.size:=h.row.lt
theorem Rz {a b:Nat}(h:b≤a):(a:Int)-(b:Int)=((a-b:Nat):Int):=by omega
theorem KS (eb tb gb vb cap:Nat)(ts:List Nat)(depth next:Nat)(T:aD)(w:World)(h:lG w eb tb vb cap ts depth next)(ht:TabAt w tb gb T)(hle:next≤T.gs.length)(h64:T.gs.length≤64):
  Calls Tryz.prog 267 #[.pointer (some ⟨eb,0,none⟩)] w fun e w'=>e= .returned (.int .i64 ((T.gs.length-next:Nat):Int))∧w.drew=w':=by
 obtain⟨uf,tc1,tc2⟩:=ht.cells;obtain⟨n,hn⟩:∃n,n=T.gs.length:=⟨_,rfl⟩;have HG:=qd (sG tb gb T w.drew (ht.below (Below.refl _ _).drew));rw[←hn]at HG hle h64⊢;unfold cO at HG;have HE:=qd (h);have ah:=qd (Mod.refl [] w);have rG:=qd h.blk;clear h ht;have ec:=rG.out.c4
 have hwr:IntKind.i64.wrap ((n:Int)-(next:Int))=((n-next:Nat):Int):=by rw[Rz hle];rw[IntKind.wrap_i64];omega
 clear uf tc1 tc2 hn;go_in;go_upto_region 1 with fail;refine rT (fun(w':World)=>w'.cell? ⟨eb,0,none⟩=some (.pointer (some ⟨tb,0,none⟩))∧w'.cell? ⟨eb,3,none⟩=some (.int .i64 (next:Int))) [] ?_;have hHeld:=(⟨ec.1,ec.2.2.2⟩:_∧_);refine vW 0 rfl ?_;refine vW 1 rfl ?_;refine vW 2 rfl ?_;refine vT 3 rfl ?_;refine vW 5 rfl ?_;refine vW 6 rfl ?_;refine vW 7 rfl ?_;refine vT 8 rfl ?_;refine nT 4 rfl fun K hK=> ?_;go_simp;refine(HG.out).mono ?_;rintro y w1 ⟨rfl,rfl⟩;go_wp2_with fail;have hHeld:=(⟨ec.1,ec.2.2.2⟩:_∧_);refine kO hK ?_;clear hK K;refine vW 9 rfl ?_;refine vW 10 rfl ?_;refine aT (by kernel_rfl) ?_ _;go_wp2;go_ret;exact⟨rfl,rfl⟩
theorem Fz (eb tb vb cap:Nat)(ts:List Nat)(depth next hash t:Nat)(hk:1≤ts.length∧ts.length≤2)(hd:depth≤15)(h64:hash<18446744073709551616)(ht:ts[cZ ts.length depth hash]?=some t)(w:World)(h:lG w eb tb vb cap ts depth next):
  Calls Tryz.prog 201 #[.pointer (some ⟨eb,0,none⟩),.int .u64 (hash:Int)] w fun e w'=>e= .returned (cO t)∧Below w.heap.size w w':=by
 obtain⟨ec0,Wl,ec2,ec3⟩:=h.blk.c4;have hr:=h.row.at_ _ _ ht;have HT:=qd ht;unfold cO;clear h ht;by_cases h1:ts.length=1
 ·have hs:cZ ts.length depth hash=0:=by unfold cZ;rw[if_pos h1]
  rw[hs]at hr;rw[h1]at Wl;go_in;go_wp2;go_ret;exact⟨rfl,Below.refl _ _⟩
 ·have h2:ts.length=2:=by omega
  have hs:cZ ts.length depth hash=uM hash depth:=by unfold cZ;rw[if_neg h1]
  rw[hs]at hr;rw[h2]at Wl;clear hs h1 HT;have hbl:uM hash depth<2:=Nat.mod_lt _ (by omega);have HBt:=qd (Vn hash depth h64 hd w.drew);generalize uM hash depth=sd at*
  have hsd:(sd:Int)<2:=by omega
  have afF:(0:Int)≤(sd:Int):=by omega
  have OB:=qd (uz (sd:Int) w.drew);go_in;go_upto_region 3 with fail;refine rT (fun(w':World)=>w'.cell? ⟨eb,1,none⟩=some (.slice (some ⟨vb,0,none⟩) 2 cap)∧w'.cell? ⟨eb,2,none⟩=some (.int .i64 (depth:Int))∧w'.cell? ⟨vb,sd,none⟩=some (.pointer (some ⟨t,0,none⟩))) [] ?_;have hHeld:=(⟨Wl,ec2,hr⟩:_∧_∧_);refine vW 0 rfl ?_;refine vW 1 rfl ?_;refine vW 2 rfl ?_;refine vT 3 rfl ?_;refine vW 4 rfl ?_;refine vW 5 rfl ?_;refine vW 6 rfl ?_;refine vW 7 rfl ?_;refine vT 8 rfl ?_;refine nT 9 rfl fun K hK=> ?_;go_simp;refine(HBt.out).mono ?_;rintro y w1 ⟨rfl,rfl⟩;go_wp2_with fail;have hHeld:=(⟨Wl,ec2,hr⟩:_∧_∧_);refine kO hK ?_;clear hK K;refine vW 10 rfl ?_;refine vW 11 rfl ?_;refine nT 12 rfl fun K hK=> ?_;go_simp;refine(OB.out).mono ?_;rintro y w1 ⟨rfl,rfl⟩;go_wp2_with fail;have hHeld:=(⟨Wl,ec2,hr⟩:_∧_∧_);refine kO hK ?_;clear hK K;refine vW 13 rfl ?_;refine vT 14 rfl ?_;refine vW 15 rfl ?_;refine aT (by kernel_rfl) ?_ _;go_wp2;go_ret;exact⟨rfl,(Below.refl _ _).drew⟩
end
section
variable {j k : Nat} {e : ay} {bs : List (Nat × Nat)} {S : List Nat} {w w' : World} {Ts : List aD}
def DF (T:aD)(e:ay):aD:=match (aJ T.gs e.key e.hash).2.1 with
 |some x=>jm T x.1 x.2 e
 |none=>T
structure OC (T:aD)(e:ay):Prop where
 ok:lQ T
 h64:e.hash<18446744073709551616
 none_:(aJ T.gs e.key e.hash).1=none
 free:∃i s,(aJ T.gs e.key e.hash).2.1=some (i,s)
 room:T.live+T.bO+1≤7*(T.gs.length:Int)
def noT:aD:=⟨[],0,0⟩
def uD (k d:Nat)(st:bH×List aD)(e:ay):bH×List aD:=
 (st.1.add cV (aJ (st.2.getD (cZ k d e.hash) noT).gs e.key e.hash).2.2,st.2.set (cZ k d e.hash) (DF (st.2.getD (cZ k d e.hash) noT) e))
def eu (k d:Nat)(st:bH×List aD)(es:List ay):bH×List aD:=es.foldl (uD k d) st
def Fits (k d:Nat):List aD→List ay→Prop
 |_,[]=>True
 |Ts,e::es=>(∃T,Ts[cZ k d e.hash]?=some T∧OC T e)∧Fits k d (Ts.set (cZ k d e.hash) (DF (Ts.getD (cZ k d e.hash) noT) e)) es
theorem TH (k d:Nat)(st:bH×List aD){es:List ay}(h:es[j]?=some e):eu k d st (es.take (j+1))=uD k d (eu k d st (es.take j)) e:=by
 unfold eu;rw[rF h,List.foldl_append];rfl
theorem RA {d:Nat}:∀{es:List ay} {x:bH} {Ts:List aD} {j:Nat} {e:ay},Fits k d Ts es→es[j]?=some e→∃T,(eu k d (x,Ts) (es.take j)).2[cZ k d e.hash]?=some T∧OC T e
 | [],_,_,_,_,_,h=>by simp at h
 |e0::es,x,Ts,0,e,hf,h=>by
  simp at h;subst h;exact hf.1
 |e0::es,x,Ts,j+1,e,hf,h=>by
  rw[List.getElem?_cons_succ]at h;have:=RA (x:=x.add cV (aJ (Ts.getD (cZ k d e0.hash) noT).gs e0.key e0.hash).2.2) hf.2 h;exact this
structure gW (w:World)(bs:List (Nat×Nat))(Ts:List aD):Prop where
 len:bs.length=Ts.length
 at_:∀(j:Nat) (b:Nat×Nat) (T:aD),bs[j]?=some b→Ts[j]?=some T→TabAt w b.1 b.2 T
 ne:∀(i j:Nat) (b c:Nat×Nat),bs[i]?=some b→bs[j]?=some c→i≠j→b.1≠c.1∧b.1≠c.2∧b.2≠c.1∧b.2≠c.2
def fM (bs:List (Nat×Nat)):List Nat:=bs.flatMap fun b=> [b.1,b.2]
theorem dJ:k∈fM bs↔∃b∈bs,k=b.1∨k=b.2:=by simp[fM]
theorem gW.mod (h:gW w bs Ts)(hm:Mod S w w')(hs:∀b∈bs,b.1∉S∧b.2∉S):gW w' bs Ts:=
 ⟨h.len,fun j b T hb hT=>(h.at_ j b T hb hT).mod hm (hs b (List.mem_of_getElem? hb)).1 (hs b (List.mem_of_getElem? hb)).2,h.ne⟩
theorem gW.ak (h:gW w bs Ts){b:Nat×Nat}{T':aD}(hb:bs[j]?=some b)(hT:TabAt w' b.1 b.2 T')(hm:Mod S w w')(hs:∀k∈S,k=b.1∨k=b.2∨∀c∈bs,k≠c.1∧k≠c.2):gW w' bs (Ts.set j T'):=by
 refine⟨by rw[List.length_set];exact h.len,fun i c T hc jK=> ?_,h.ne⟩;rw[List.getElem?_set]at jK;by_cases hij:j=i
 ·subst hij;rw[hb]at hc;cases hc;obtain⟨hlt,_⟩:=List.getElem?_eq_some_iff.1 hb;rw[if_pos rfl,if_pos (by rw[←h.len];exact hlt)]at jK;cases jK;exact hT
 ·rw[if_neg hij]at jK;have hne:=h.ne j i b c hb hc hij;have hcm:=List.mem_of_getElem? hc;refine(h.at_ i c T hc jK).mod hm (fun hk=> ?_) (fun hk=> ?_)
  ·rcases hs _ hk with e|e|e
   ·exact hne.1 e.symm
   ·exact hne.2.2.1 e.symm
   ·exact(e c hcm).1 rfl
  ·rcases hs _ hk with e|e|e
   ·exact hne.2.1 e.symm
   ·exact hne.2.2.2 e.symm
   ·exact(e c hcm).2 rfl
end
theorem TI {W0:World}{E:Nat→Addr}(tb gb:Nat)(T:aD)(P:MP)(x:bH)(c:bE)(g:Nat)(hg:g<T.gs.length)(hok:lQ T)(w:World)(h:TabAt w tb gb T)(hM:aP w P x)(hE:Env W0 E w)(hmt:P.mb≠tb)(lM:P.mb≠gb)(hb0:W0.heap.size≤P.mb)(hb1:W0.heap.size≤tb)(hb2:W0.heap.size≤gb):
  Calls Tryz.prog 302 #[cO tb,aM (some ⟨P.mb,P.mo,none⟩) c,.int .i64 (g:Int)] w fun e w'=>∃A cc,e= .returned (.tuple #[.slice A (bJ (T.gs.getD g [])).length cc,.nilIface])∧
   w'.ownsRow w.heap.size 153 3 (.slice A (bJ (T.gs.getD g [])).length cc) (bJ (T.gs.getD g [])).length ((bJ (T.gs.getD g [])).flatMap aN)∧TabAt w' tb gb (takeN T g 8)∧aP w' P (x.add c 1)∧Mod [P.mb,tb,gb] w w':=by
 have hB:=(Below.refl w.heap.size w).alloc (Nat.le_refl _) (.cells #[.pointer (some ⟨P.mb,P.mo,none⟩),.int .i64 c.p,.int .i64 c.v,.int .i64 c.u] 150);have hL:=aj.new w 150 #[.pointer (some ⟨P.mb,P.mo,none⟩),.int .i64 c.p,.int .i64 c.v,.int .i64 c.u];obtain⟨W,hW⟩:∃W,W=w.alloc (.cells #[.pointer (some ⟨P.mb,P.mo,none⟩),.int .i64 c.p,.int .i64 c.v,.int .i64 c.u] 150):=⟨_,rfl⟩;rw[←hW]at hB hL;obtain⟨N9,Oa,Ob,Oc⟩:=hL.c4;have hml:=hM.lt;have htl:=h.aU;have hgl:=h.aV;have hB0:=hE.size;have HW:=qd hW
 have hg0:(g:Int)<(T.gs.length:Int):=by omega
 have wP:=qd (IK tb gb T P.mb P.mt P.pre P.post P.mo x.all x.last P.m c g hg W (h.below hB) (hM.below hB) hmt lM);have KT:=qd hok;unfold cO aM aY at wP;unfold cO aM;have HT:=qd (h.below hB);have av:=qd (hE.next hB);have ah:=qd (Mod.of_below hB [P.mb,tb,gb]);clear hW hB h hM hL hE hok;generalize hGn:T.gs.getD g []=G;go_in;go_upto_region 1 with fail;rw[←HW.out];go_wp2_with fail;refine(wP.out).mono ?_;rintro x w1 ⟨rfl,hM1,hm⟩;clear N9 Oa Ob Oc;replace HT:=qM hm HT;replace av:=qM hm av;replace ah:=qU ah hm;clear hm;have HM:=qd (show aP w1 P (x.add c 1)from hM1);clear hM1;go_upto_region 4 with fail;have q1:=qJ HT.out.aU (qJ HT.out.aV (qJ HM.out.lt ah.out.size));refine dQ 202 #[.pointer (some ⟨gb,g*25,none⟩)] ?_;rintro w2 ⟨hnew,hb⟩;obtain⟨vb,hvb⟩:∃vb,vb=w1.heap.size:=⟨_,rfl⟩;rw[←hvb]at hnew⊢
 replace hvb:w1.heap.size≤vb:=by omega
 replace HT:=qB hb HT;replace av:=qB hb av;replace HM:=qB hb HM;replace ah:=qT ah hb;have HV:=qd (hnew);clear hnew hb;have z5:=ah.out.size;have Ar:=HV.out.cell 0;simp only[List.getElem?_toArray,List.getElem?_cons_zero]at Ar;have dF:=qd (Fh gb 246 _ _ (g*25) _ w2 (HT.out.group g hg) av.out.tz);rw[hGn]at dF;unfold aY at dF;go_wp2_with fail;refine(dF.out).mono ?_;rintro x w3 ⟨A,cc,rfl,hO,hb⟩;clear Ar;replace HT:=qB hb HT;replace av:=qB hb av;replace HM:=qB hb HM;replace HV:=qB hb HV;replace ah:=qT ah hb;clear hb;have hwl:=ah.out.size;have HO:=qd (hO);clear hO;have q6:=qJ HT.out.aU (qJ HT.out.aV (qJ HM.out.lt HV.out.lt));clear HW;go_wp2;go_loopw [11,12,13,26] (fun _ _ _ i wr=>∃k:Nat,k≤8∧i= .int .i64 k∧TabAt wr tb gb (takeN T g k)∧aP wr P (x.add c 1)∧Env W0 E wr∧wr.ownsRow w2.heap.size 153 3 (.slice A (bJ G).length cc) (bJ G).length ((bJ G).flatMap aN)∧aj wr vb 202 #[.pointer (some ⟨gb,g*25,none⟩)]∧Mod [P.mb,tb,gb] w wr) (fun _ _ _ i _=>8-(intOf i).toNat)
 case atStart=>exact⟨0,by omega,rfl,HT.out,HM.out,av.out,HO.out,HV.out,ah.out⟩
 case round=>
  clear HT HM av HO HV ah;obtain⟨k,hk,rfl,hT,hM,hE,hO,hV,hm⟩:=hrel;by_cases hlt:k<8
  ·have hlt':(k:Int)<8:=by omega
   have HT:=qd (hT);have HM:=qd (hM);have av:=qd (hE);have HO:=qd (hO);have HV:=qd (hV);have ah:=qd (hm);clear hT hM hE hO hV hm
   have hgk:g<(takeN T g k).gs.length:=by rw[sN];exact hg
   have HG:=qd (HT.out.group g hgk);have HOe:=qd (KT.out.tkN g k);have Ar:=HV.out.cell 0;simp only[List.getElem?_toArray,List.getElem?_cons_zero]at Ar
   cases hsl:aF (takeN T g k).gs g k with
   |full e=>
    have kJ:=qd (Fg gb 246 _ _ (g*25) _ wr HG.out k hlt e (by unfold aF at hsl;exact hsl));unfold aY aW at kJ;clear HG;go_wp2_with fail;refine(kJ.out).mono ?_;rintro x w4 ⟨rfl,hb⟩;clear Ar;replace HT:=qB hb HT;replace HM:=qB hb HM;replace av:=qB hb av;replace HO:=qB hb HO;replace HV:=qB hb HV;replace ah:=qT ah hb;clear hb kJ;go_upto_region 10 with fail;have q1:=qJ HT.out.aU (qJ HT.out.aV (qJ HM.out.lt (qJ HV.out.lt ah.out.size)));refine dQ 153 #[.int .u64 (e.key:Int),.int .u64 (e.val:Int),.int .u64 (e.hash:Int)] ?_;rintro w5 ⟨hnew,hb⟩;replace HT:=qB hb HT;replace HM:=qB hb HM;replace av:=qB hb av;replace HO:=qB hb HO;replace HV:=qB hb HV;replace ah:=qT ah hb;have HD:=qd (hnew);clear hnew hb;have Ar:=HV.out.cell 0;simp only[List.getElem?_toArray,List.getElem?_cons_zero]at Ar;have HEr:=qd (QJ tb gb (takeN T g k) g k hgk hlt e hsl HOe.out.small w5 HT.out);unfold cO N8 at HEr;clear HT HD;go_wp2_with fail;refine(HEr.out).mono ?_;rintro x w6 ⟨rfl,hT6,hm⟩;clear Ar;replace HM:=qM hm HM;replace av:=qM hm av;replace HO:=qM hm HO;replace HV:=qM hm HV;replace ah:=qU ah hm;clear hm;have HT:=qd (hT6);clear hT6;have j5:=qd (show takeN T g (k+1)=kV (takeN T g k) g k from by show fT _ _ _=_;unfold fT;rw[hsl];rfl);clear hsl;go_wp2;go_roundw
    case rel=>exact⟨k+1,by omega,by go_num,by rw[j5.out];exact HT.out,HM.out,av.out,HO.out,HV.out,ah.out⟩
    case measure=>simp[intOf];omega
   |empty=>
    have kJ:=qd (KE gb 246 _ _ (g*25) _ wr HG.out k hlt (by unfold aF at hsl;rw[hsl];rfl) E (av.out.errs.at_ 5 (by omega) (by omega)));unfold aY aW at kJ;clear HG;go_wp2_with fail;refine(kJ.out).mono ?_;rintro x w4 ⟨rfl,hb⟩;clear Ar;replace HT:=qB hb HT;replace HM:=qB hb HM;replace av:=qB hb av;replace HO:=qB hb HO;replace HV:=qB hb HV;replace ah:=qT ah hb;clear hb kJ;have j5:=qd (show takeN T g (k+1)=takeN T g k from by show fT _ _ _=_;unfold fT;rw[hsl];rfl);clear hsl;go_upto_region 11 with fail;have q1:=qJ HT.out.aU (qJ HT.out.aV (qJ HM.out.lt (qJ HV.out.lt ah.out.size)));refine dQ 153 #[.int .u64 0,.int .u64 0,.int .u64 0] ?_;rintro w5 ⟨hnew,hb⟩;replace HT:=qB hb HT;replace HM:=qB hb HM;replace av:=qB hb av;replace HO:=qB hb HO;replace HV:=qB hb HV;replace ah:=qT ah hb;have HD:=qd (hnew);clear hnew hb;go_wp2;go_roundw
    case rel=>exact⟨k+1,by omega,by go_num,by rw[j5.out];exact HT.out,HM.out,av.out,HO.out,HV.out,ah.out⟩
    case measure=>simp[intOf];omega
   |qc=>
    have kJ:=qd (KE gb 246 _ _ (g*25) _ wr HG.out k hlt (by unfold aF at hsl;rw[hsl];rfl) E (av.out.errs.at_ 5 (by omega) (by omega)));unfold aY aW at kJ;clear HG;go_wp2_with fail;refine(kJ.out).mono ?_;rintro x w4 ⟨rfl,hb⟩;clear Ar;replace HT:=qB hb HT;replace HM:=qB hb HM;replace av:=qB hb av;replace HO:=qB hb HO;replace HV:=qB hb HV;replace ah:=qT ah hb;clear hb kJ;have j5:=qd (show takeN T g (k+1)=takeN T g k from by show fT _ _ _=_;unfold fT;rw[hsl];rfl);clear hsl;go_upto_region 11 with fail;have q1:=qJ HT.out.aU (qJ HT.out.aV (qJ HM.out.lt (qJ HV.out.lt ah.out.size)));refine dQ 153 #[.int .u64 0,.int .u64 0,.int .u64 0] ?_;rintro w5 ⟨hnew,hb⟩;replace HT:=qB hb HT;replace HM:=qB hb HM;replace av:=qB hb av;replace HO:=qB hb HO;replace HV:=qB hb HV;replace ah:=qT ah hb;have HD:=qd (hnew);clear hnew hb;go_wp2;go_roundw
    case rel=>exact⟨k+1,by omega,by go_num,by rw[j5.out];exact HT.out,HM.out,av.out,HO.out,HV.out,ah.out⟩
    case measure=>simp[intOf];omega
  ·obtain rfl:k=8:=by omega
   have HF:=qd (And.intro hT (And.intro hM (And.intro (qK hO (show w.heap.size≤w2.heap.size by omega)) hm)));clear hT hM hE hO hV hm
   have hlt':¬((8:Nat):Int)<8:=by omega
   go_wp2;refine bodyPost_ret (v:= .tuple #[.slice A (bJ G).length cc,.nilIface]) (by simp[results,Tryz.results302,go_sem]) rfl ⟨A,cc,rfl,HF.out.2.2.1,HF.out.1,HF.out.2.1,HF.out.2.2.2⟩
theorem Wm {W0:World}{E:Nat→Addr}(eb tb gb vb cap:Nat)(depth next:Nat)(bs:List (Nat×Nat))(T:aD)(Ts:List aD)(P:MP)(x:bH)(hk:1≤bs.length∧bs.length≤2)(hd:depth≤15)(w:World)
  (h:lG w eb tb vb cap (bs.map Prod.fst) depth next) (ht:TabAt w tb gb T) (hok:lQ T) (hn:next<T.gs.length) (hts:gW w bs Ts) (hfit:Fits bs.length depth Ts (bJ (T.gs.getD next [])))
  (hM:aP w P x) (hE:Env W0 E w) (hbd:∀b∈bs,b.1∉[P.mb,eb,vb,tb,gb]∧b.2∉[P.mb,eb,vb,tb,gb]) (hmd:P.mb∉[eb,vb,tb,gb]) (hed:eb∉[vb,tb,gb]) (hvd:vb∉[tb,gb])
  (hb0:W0.heap.size≤P.mb) (hb1:W0.heap.size≤tb) (hb2:W0.heap.size≤gb) (_:W0.heap.size≤eb) (hb4:∀b∈bs,W0.heap.size≤b.1∧W0.heap.size≤b.2):
  Calls Tryz.prog 298 #[.pointer (some ⟨eb,0,none⟩),.pointer (some ⟨P.mb,P.mo,none⟩)] w fun e w'=>e= .returned (.bool true)∧lG w' eb tb vb cap (bs.map Prod.fst) depth (next+1)∧TabAt w' tb gb (takeN T next 8)∧
   gW w' bs (eu bs.length depth ((x.add (cU 1) 1).add cV 1,Ts) (bJ (T.gs.getD next []))).2∧aP w' P (eu bs.length depth ((x.add (cU 1) 1).add cV 1,Ts) (bJ (T.gs.getD next []))).1∧Mod (P.mb::eb::tb::gb::fM bs) w w':=by
 simp only[List.mem_cons,List.not_mem_nil,or_false,not_or]at hmd hed hvd hbd;have hml:=hM.lt;have hB0:=hE.size;have iY:=qd (KS eb tb gb vb cap _ depth next T w h ht (by omega) hok.pow.le);have hle:=hok.pow.le
 obtain⟨dn,hdn⟩:∃dn,dn=T.gs.length-next:=⟨_,rfl⟩
 rw[←hdn]at iY
 have hd0:¬(dn:Int)=0:=by omega
 have hd1:¬dn=0:=by omega
 obtain⟨bn,hbn⟩:∃bn,bn=(bs.map Prod.fst).length:=⟨_,rfl⟩;have hbl:(bs.map Prod.fst).length=bs.length:=List.length_map ..;have KT:=qd hok
 have hbs:∀b∈bs,b.1<w.heap.size∧b.2<w.heap.size:=fun b hb=>by
  obtain⟨j,hj⟩:=List.getElem?_of_mem hb;obtain⟨hlt,_⟩:=List.getElem?_eq_some_iff.1 hj
  have hlt2:j<Ts.length:=by rw[←hts.len];exact hlt
  have:=hts.at_ j b Ts[j] hj (List.getElem?_eq_getElem hlt2);exact⟨this.aU,this.aV⟩
 obtain⟨es,hes⟩:∃es,es=bJ (T.gs.getD next []):=⟨_,rfl⟩;rw[←hes]at hfit⊢;have HEs:=qd hes;clear hes;have sP:=qd hbd;have HV:=qd (h);have HT:=qd (ht);have dH:=qd (hts);have av:=qd (hE);have HM:=qd (hM);have ah:=qd (Mod.refl (P.mb::eb::tb::gb::fM bs) w);have HF:=qd hfit;clear h ht hts hE hM hok hdn hfit;have q1:=qJ HV.out.lt (qJ HV.out.pV (qJ HT.out.aU (qJ HT.out.aV HM.out.lt)));go_in;go_upto_region 1 with fail;go_wp2_with fail;refine(iY.out).mono ?_;rintro y w1 ⟨rfl,hw1⟩;have hm:Mod [] w w1:=hw1▸Mod.drewN [] w 1;clear hw1 iY;replace HV:=qM hm HV;replace HT:=qM hm HT;replace dH:=qd (dH.out.mod hm (fun b hb=>by have hh:=hbd b hb;simp<;>omega));replace av:=qM hm av;replace HM:=qM hm HM;have z6:=(hm).size;replace ah:=qU ah hm;clear hm;have HU:=qd (sD P.mb P.mt P.pre P.post P.mo _ _ P.m 1 (by omega) w1 HM.out);clear HM;go_wp2_with fail;refine(HU.out).mono ?_;rintro x w2 ⟨rfl,hM2,hm⟩;replace HV:=qM hm HV;replace HT:=qM hm HT;replace dH:=qd (dH.out.mod hm (fun b hb=>by have hh:=hbd b hb;simp<;>omega));replace av:=qM hm av;have z7:=(hm).size;replace ah:=qU ah hm;clear hm;have HM:=qd (show aP w2 P (x.add (cU 1) 1)from hM2);clear hM2 HU;go_upto_region 4 with fail;have hEb:=HV.out.blk;rw[←hbn]at hEb;have rG:=qd (hEb);clear hEb;have ec:=rG.out.c4;refine rT (fun(w':World)=>w'.cell? ⟨eb,0,none⟩=some (.pointer (some ⟨tb,0,none⟩))∧w'.cell? ⟨eb,3,none⟩=some (.int .i64 (next:Int))) [] ?_;have hHeld:=(⟨ec.1,ec.2.2.2⟩:_∧_);refine vW 0 rfl ?_;refine vW 1 rfl ?_;refine vW 2 rfl ?_;refine vT 3 rfl ?_
 refine vW 4 rfl ?_;refine vW 6 rfl ?_;refine vW 7 rfl ?_;refine vW 8 rfl ?_;refine vT 9 rfl ?_;refine vW 15 rfl ?_;refine nT 5 rfl fun K hK=> ?_;go_simp;refine(wo (some ⟨P.mb,P.mo,none⟩) _).mono ?_;rintro y w3 ⟨rfl,hb⟩;replace hb:Below w2.heap.size w2 w3:=bQ hb (Below.refl _ _).drew;unfold aM;clear ec;replace HV:=qB hb HV;replace HT:=qB hb HT;replace dH:=qd (dH.out.mod (Mod.of_below hb []) (by simp));replace av:=qB hb av;replace HM:=qB hb HM;replace rG:=qB hb rG;have z8:=(hb).size;replace ah:=qT ah hb;clear hb;have ec:=rG.out.c4;go_wp2_with fail;have hHeld:=(⟨ec.1,ec.2.2.2⟩:_∧_);refine kO hK ?_;clear hK K;refine nT 10 rfl fun K hK=> ?_;go_simp;have kW:=qd (TI tb gb T P (x.add (cU 1) 1) cV next hn KT.out w3 HT.out HM.out av.out (by omega) (by omega) hb0 hb1 hb2);unfold cO aM cV at kW;refine(kW.out).mono ?_;rintro y w4 ⟨A,cc,rfl,yg,Fj,Am,hm⟩;clear kW HT HM ec;replace HV:=qM hm HV;replace dH:=qd (dH.out.mod hm (fun b hb=>by have hh:=hbd b hb;simp<;>omega));replace av:=qM hm av;replace rG:=qM hm rG;have z9:=(hm).size;replace ah:=qU ah hm;have HT:=qd (Fj);have HM:=qd (Am);have fD:=qd (yg);clear Fj Am yg hm;have ec:=rG.out.c4;rw[←HEs.out]at fD⊢;go_wp2_with fail;have hHeld:=(⟨ec.1,ec.2.2.2⟩:_∧_);refine kO hK ?_;clear hK K;refine vW 11 rfl ?_;refine vW 12 rfl ?_;refine nT 13 rfl fun K hK=> ?_;go_simp;refine(Wh A es.length cc w4).mono ?_;rintro y w5 ⟨rfl,rfl⟩;go_wp2_with fail;have hHeld:=(⟨ec.1,ec.2.2.2⟩:_∧_);refine kO hK ?_;clear hK K;refine vW 14 rfl ?_
 refine aT (by kernel_rfl) ?_ _
 have adX:es.length≤8:=by have h1:=yY (T.gs.getD next []);have h2:=KT.out.wide.at_ hn;rw[HEs.out];omega
 clear hd0 hd1;go_wp2;clear ec rG;obtain⟨st0,OD⟩:∃st0:bH×List aD,st0=((x.add (cU 1) 1).add cV 1,Ts):=⟨_,rfl⟩;go_loopw [6,7,8,29] (fun _ _ _ i wr=>∃j:Nat,j≤es.length∧i= .int .i64 j∧lG wr eb tb vb cap (bs.map Prod.fst) depth next∧TabAt wr tb gb (takeN T next 8)∧gW wr bs (eu bs.length depth st0 (es.take j)).2∧aP wr P (eu bs.length depth st0 (es.take j)).1∧Env W0 E wr∧wr.ownsRow w3.heap.size 153 3 (.slice A es.length cc) es.length (es.flatMap aN)∧Mod (P.mb::eb::tb::gb::fM bs) w wr) (fun _ _ _ i _=>es.length-(intOf i).toNat)
 case atStart=>exact⟨0,by omega,rfl,HV.out,HT.out,by rw[OD];exact dH.out,by rw[OD];exact HM.out,av.out,fD.out,ah.out⟩
 case round=>
  clear HV HT dH HM av fD ah;obtain⟨j,hj,rfl,hV,hT,hTs,hM,hE,yg,hm⟩:=hrel;by_cases hlt:j<es.length
  ·have hlt':(j:Int)<(es.length:Int):=by omega
   have hj0:(0:Int)≤(j:Int):=by omega
   obtain⟨e,he⟩:∃e,es[j]?=some e:=⟨_,List.getElem?_eq_getElem hlt⟩;obtain⟨g,rfl,hgb,k0,k1,k2,hjn⟩:=KQ yg he;have dW:=qd (TH bs.length depth st0 he);obtain⟨T1,hT1,hcp⟩:=RA (x:=(x.add (cU 1) 1).add cV 1) HF.out he;rw[←OD]at hT1;clear he hjn;obtain⟨st,hst⟩:∃st,st=eu bs.length depth st0 (es.take j):=⟨_,rfl⟩;rw[←hst]at hTs hM dW hT1;clear hst;obtain⟨sd,hsd⟩:∃sd,sd=cZ bs.length depth e.hash:=⟨_,rfl⟩;have HSd:=qd hsd;rw[←hsd]at hT1;clear hsd;obtain⟨b,hb⟩:∃b,bs[sd]?=some b:=⟨_,List.getElem?_eq_getElem (by rw[hTs.len];exact(List.getElem?_eq_some_iff.1 hT1).1)⟩;have oL:=List.mem_of_getElem? hb;have hbb:=hbd b oL;have afG:=hbs b oL;have afH:=hb4 b oL;have FB:=qd hb;have HT1:=qd hT1;have nJ:=qd hcp;clear hb hT1 hcp;have HV:=qd (hV);have HT:=qd (hT);have dH:=qd (hTs);have HM:=qd (hM);have av:=qd (hE);have fD:=qd (yg);have ah:=qd (hm);clear hV hT hTs hM hE yg hm;have RB:=qd (fun(V:World) (hV:lG V eb tb vb cap (bs.map Prod.fst) depth next)=>Fz eb tb vb cap (bs.map Prod.fst) depth next e.hash b.1 (by rw[List.length_map];exact hk) hd nJ.out.h64 (by rw[List.length_map,←HSd.out,List.getElem?_map,FB.out];rfl) V hV);unfold cO at RB;go_upto_region 7 with fail;have q1:=qJ HV.out.lt (qJ HV.out.pV (qJ HT.out.aU (qJ HT.out.aV (qJ HM.out.lt ah.out.size))));refine dQ 153 #[.int .u64 (e.key:Int),.int .u64 (e.val:Int),.int .u64 (e.hash:Int)] ?_;rintro w6 ⟨hnew,hb⟩;obtain⟨xb,hxb⟩:∃xb,xb=wr.heap.size:=⟨_,rfl⟩;rw[←hxb]at hnew⊢
   replace hxb:wr.heap.size≤xb:=by omega
   clear k0 k1 k2;replace HV:=qB hb HV;replace HT:=qB hb HT;replace dH:=qd (dH.out.mod (Mod.of_below hb []) (by simp));replace HM:=qB hb HM;replace av:=qB hb av;replace fD:=qB hb fD;have z7:=(hb).size;replace ah:=qT ah hb;have HX:=qd (hnew);clear hnew hb;have xc:=HX.out.c3;obtain⟨i,s,hfr⟩:=nJ.out.free;have Om:=qd hfr;clear hfr;refine rT (fun(w':World)=>w'.cell? ⟨xb,0,none⟩=some (.int .u64 (e.key:Int))∧w'.cell? ⟨xb,1,none⟩=some (.int .u64 (e.val:Int))∧w'.cell? ⟨xb,2,none⟩=some (.int .u64 (e.hash:Int))) [] ?_;have hHeld:=(⟨xc.1,xc.2.1,xc.2.2⟩:_∧_∧_);refine vW 0 rfl ?_;refine vW 1 rfl ?_;refine vT 2 rfl ?_;refine vW 4 rfl ?_;refine vT 6 rfl ?_;refine nT 3 rfl fun K hK=> ?_;go_simp;refine(RB.out _ (HV.out.mod (Mod.drewN [] w6 1) (by simp) (by simp))).mono ?_;rintro y w7 ⟨rfl,hb⟩;replace hb:Below w6.heap.size w6 w7:=bQ hb (Below.refl _ _).drew;clear xc;replace HV:=qB hb HV;replace HT:=qB hb HT;replace dH:=qd (dH.out.mod (Mod.of_below hb []) (by simp));replace HM:=qB hb HM;replace av:=qB hb av;replace fD:=qB hb fD;replace HX:=qB hb HX;have z8:=(hb).size;replace ah:=qT ah hb;clear hb;have xc:=HX.out.c3;go_wp2_with fail;have hHeld:=(⟨xc.1,xc.2.1,xc.2.2⟩:_∧_∧_);refine kO hK ?_;clear hK K;refine nT 5 rfl fun K hK=> ?_;go_simp;refine(wo (some ⟨P.mb,P.mo,none⟩) _).mono ?_;rintro y w8 ⟨rfl,hb⟩;unfold aM;clear xc;replace HV:=qB hb HV;replace HT:=qB hb HT;replace dH:=qd (dH.out.mod (Mod.of_below hb []) (by simp));replace HM:=qB hb HM;replace av:=qB hb av;replace fD:=qB hb fD
   replace HX:=qB hb HX;have z9:=(hb).size;replace ah:=qT ah hb;clear hb;have xc:=HX.out.c3;go_wp2_with fail;have hHeld:=(⟨xc.1,xc.2.1,xc.2.2⟩:_∧_∧_);refine kO hK ?_;clear hK K;refine nT 7 rfl fun K hK=> ?_;go_simp;have vG:=qd (Mi b.1 b.2 T1 P.mb P.mt P.pre P.post P.mo st.1.all st.1.last P.m cV e w8 (dH.out.at_ sd b T1 FB.out HT1.out) nJ.out.ok.pow nJ.out.h64 HM.out (by omega) (by omega) av.out.tz (by have:=av.out.ach;omega) nJ.out.none_ i s Om.out nJ.out.ok.small nJ.out.room);unfold cO aM aW cV at vG;refine(vG.out).mono ?_;rintro y w9 ⟨rfl,hT9,hM9,hm⟩;clear vG HM;have aci:=dH.out.ak FB.out hT9 hm (by intro q hq;simp at hq;rcases hq with rfl|rfl|rfl;exact .inr (.inr (fun c hc=>by have:=hbd c hc;omega));exact .inl rfl;exact .inr (.inl rfl));clear dH hT9;have hm0:Mod (P.mb::eb::tb::gb::fM bs) w8 w9:=hm.more (by intro q hq;simp at hq;rcases hq with rfl|rfl|rfl;simp;simp[dJ];exact .inr (.inr (.inr (.inr ⟨_,_,oL,.inl rfl⟩)));simp[dJ];exact .inr (.inr (.inr (.inr ⟨_,_,oL,.inr rfl⟩))));have Wn:=ah;clear ah;have ah:=qd (Mod.refl [P.mb,b.1,b.2] w8);clear xc;replace HV:=qM hm HV;replace HT:=qM hm HT;replace av:=qM hm av;replace fD:=qM hm fD;replace HX:=qM hm HX;have z10:=(hm).size;replace ah:=qU ah hm;clear ah;have ah:=qd (Wn.out.then hm0);clear Wn hm0 hm;have dH:=qd (aci);have HM:=qd (show aP w9 P (st.1.add cV (aJ T1.gs e.key e.hash).2.2)from hM9);clear aci hM9;have xc:=HX.out.c3;go_wp2_with fail;have hHeld:=(⟨xc.1,xc.2.1,xc.2.2⟩:_∧_∧_);refine kO hK ?_;clear hK K;refine vW 8 rfl ?_
   refine vW 9 rfl ?_;refine vW 10 rfl ?_;refine vW 11 rfl ?_;refine vW 12 rfl ?_;refine aT (by kernel_rfl) ?_ _
   have hgd:st.2.getD sd noT=T1:=by rw[List.getD_eq_getElem?_getD,HT1.out];rfl
   have j5:=qd (show eu bs.length depth st0 (es.take (j+1))=(st.1.add cV (aJ T1.gs e.key e.hash).2.2,st.2.set sd (jm T1 i s e))from by rw[dW.out];unfold uD;rw[←HSd.out,hgd];unfold DF;rw[Om.out]);clear hgd;have DI:=qd (DC w9);go_wp2_with fail;refine(DI.out).mono ?_;rintro y Wo ⟨rfl,rfl⟩;clear xc;go_wp2;go_roundw
   case rel=>exact⟨j+1,by omega,by go_num,HV.out,HT.out,by rw[j5.out];exact dH.out,by rw[j5.out];exact HM.out,av.out,fD.out,ah.out⟩
   case measure=>simp[intOf];omega
  ·obtain rfl:j=es.length:=by omega
   have hlt':¬(es.length:Int)<(es.length:Int):=by omega
   rw[List.take_length]at hTs hM;have rG:=qd (hV.blk);have HW:=qd (hV.row);have HT:=qd (hT);have dH:=qd (hTs);have HM:=qd (hM);have ah:=qd (hm);clear hV hT hTs hM hE yg hm;have q1:=qJ rG.out.lt (qJ HW.out.lt (qJ HT.out.aU (qJ HT.out.aV HM.out.lt)));have ec:=rG.out.c4;have ef:=rG.out.f4;go_upto_region 11 with fail;have q6:=qJ rG.out.lt (qJ HW.out.lt (qJ HT.out.aU (qJ HT.out.aV HM.out.lt)));refine Ib rG.out ?_;rintro OE ⟨hnew,hm⟩;simp only[pt]at hnew;clear ec ef;replace HW:=qM hm HW;replace HT:=qM hm HT;replace dH:=qd (dH.out.mod hm (fun b hb=>by have hh:=hbd b hb;simp<;>omega));replace HM:=qM hm HM;have z11:=(hm).size;replace ah:=qU ah hm;replace rG:=qd hnew;clear hnew hm;go_wp2;go_ret;exact⟨rfl,⟨rG.out,HW.out⟩,HT.out,by rw[←OD];exact dH.out,by rw[←OD];exact HM.out,ah.out⟩
section
def pW (n k i:Nat):Nat:=min n (k-i*n)
def bB (db rb ob og:Nat)(bl:List (Nat×Nat×Nat)):List Nat:=db::rb::ob::og::bl.flatMap fun b=> [b.1,b.2.1,b.2.2]
structure vH (w:World)(db rb cap ob og:Nat)(bl:List (Nat×Nat×Nat))(T:aD)(n depth k:Nat):Prop where
 blk:aj w db 317 #[.pointer (some ⟨ob,0,none⟩),.int .i64 (depth:Int),.slice (some ⟨rb,0,none⟩) bl.length cap,.slice none 0 0,.pointer none,.bool false]
 row:eP w rb (bl.map fun b=>b.1)
 qh:∀(i:Nat) (b:Nat×Nat×Nat),bl[i]?=some b→fG w b.1 b.2.1 b.2.2 n (pW n k i)
 tab:TabAt w ob og T
 pow:Pw n
 many:1≤bl.length∧bl.length≤2
 lt:k<n*bl.length
 deep:depth≤15
 nd:(bB db rb ob og bl).Nodup
def aR (db rb fb eb vb ob og:Nat)(bD:List Nat)(bs:List (Nat×Nat)):List Nat:=db::rb::fb::eb::vb::ob::og::(bD++fM bs)
structure oM (w:World)(db rb cap ob og fb bS eb vb bV:Nat)(bD:List Nat)(bs:List (Nat×Nat))(T:aD)(Ts:List aD)(n depth next:Nat):Prop where
 blk:aj w db 317 #[.pointer (some ⟨ob,0,none⟩),.int .i64 (depth:Int),.slice (some ⟨rb,0,none⟩) bD.length cap,.slice (some ⟨fb,0,none⟩) bs.length bS,.pointer (some ⟨eb,0,none⟩),.bool false]
 row:eP w rb bD
 qh:∀b∈bD,aj w b 363 #[.pointer none,.int .i64 (n:Int),.int .i64 (n:Int)]
 fresh:eP w fb (bs.map Prod.fst)
 ev:lG w eb ob vb bV (bs.map Prod.fst) depth next
 tab:TabAt w ob og T
 tabs:gW w bs Ts
 pow:Pw n
 many:1≤bs.length∧bs.length≤2
 eq:bD.length=bs.length
 deep:depth≤15
 nd:(aR db rb fb eb vb ob og bD bs).Nodup
section
variable {w w' : World} {db rb cap ob og fb bS eb vb bV : Nat} {bl : List (Nat × Nat × Nat)} {bD : List Nat} {bs : List (Nat × Nat)} {T : aD} {Ts : List aD} {n depth k next : Nat}
theorem vI {b:Nat×Nat×Nat}(h:b∈bl):b.1∈bB db rb ob og bl∧b.2.1∈bB db rb ob og bl∧b.2.2∈bB db rb ob og bl:=by
 have h0:∀q∈[b.1,b.2.1,b.2.2],q∈bl.flatMap fun b=> [b.1,b.2.1,b.2.2]:=fun q hq=>List.mem_flatMap.2 ⟨b,h,hq⟩;have h1:=h0 b.1 (by simp);have h2:=h0 b.2.1 (by simp);have h3:=h0 b.2.2 (by simp);unfold bB;simp only[List.mem_cons];exact⟨.inr (.inr (.inr (.inr h1))),.inr (.inr (.inr (.inr h2))),.inr (.inr (.inr (.inr h3)))⟩
theorem vH.mod {S:List Nat}(h:vH w db rb cap ob og bl T n depth k)(hm:Mod S w w')(hs:∀q∈bB db rb ob og bl,q∉S):vH w' db rb cap ob og bl T n depth k:=
 ⟨h.blk.mod hm (hs _ (by simp[bB])),h.row.mod hm (hs _ (by simp[bB])),fun i b hb=>by
  obtain⟨h1,h2,h3⟩:=vI (db:=db) (rb:=rb) (ob:=ob) (og:=og) (List.mem_of_getElem? hb)
  exact(h.qh i b hb).mod hm (hs _ h1) (hs _ h2) (hs _ h3),
  h.tab.mod hm (hs _ (by simp[bB])) (hs _ (by simp[bB])),h.pow,h.many,h.lt,h.deep,h.nd⟩
theorem oM.mod {S:List Nat}(h:oM w db rb cap ob og fb bS eb vb bV bD bs T Ts n depth next)(hm:Mod S w w')(hs:∀q∈aR db rb fb eb vb ob og bD bs,q∉S):oM w' db rb cap ob og fb bS eb vb bV bD bs T Ts n depth next:=
 ⟨h.blk.mod hm (hs _ (by simp[aR])),h.row.mod hm (hs _ (by simp[aR])),fun b hb=>(h.qh b hb).mod hm (hs _ (by unfold aR;simp[hb])),h.fresh.mod hm (hs _ (by simp[aR])),
  h.ev.mod hm (hs _ (by simp[aR])) (hs _ (by simp[aR])),h.tab.mod hm (hs _ (by simp[aR])) (hs _ (by simp[aR])),
  h.tabs.mod hm (fun b hb=>⟨hs _ (by unfold aR;simp[dJ];exact .inr (.inr (.inr (.inr (.inr (.inr (.inr (.inr ⟨_,_,hb,.inl rfl⟩)))))))),hs _ (by unfold aR;simp[dJ];exact .inr (.inr (.inr (.inr (.inr (.inr (.inr (.inr ⟨_,_,hb,.inr rfl⟩))))))))⟩),h.pow,h.many,h.eq,h.deep,h.nd⟩
end
def dx (db:Nat):Value:= .pointer (some ⟨db,0,none⟩)
def rH (n k:Nat):Nat→Nat
 |0=>0
 |j+1=>rH n k j+(n-pW n k j)
theorem BD (n k:Nat):∀j,rH n k j=n*j-min k (n*j)
 |0=>by simp[rH]
 |j+1=>by
  have h1:=BD n k j;unfold rH pW;rw[h1,Nat.mul_comm j n,Nat.mul_succ];generalize n*j=m;omega
theorem wD (db:Nat)(w:World)(h:w.cell? ⟨db,3,none⟩=some (.slice none 0 0)):
  Calls Tryz.prog 200 #[dx db] w fun e w'=>e= .returned (.bool false)∧w=w':=by
 unfold dx;go_in;go_wp2;go_ret;exact⟨rfl,rfl⟩
theorem uF (db fb fn bS:Nat)(w:World)(h:w.cell? ⟨db,3,none⟩=some (.slice (some ⟨fb,0,none⟩) fn bS)):
  Calls Tryz.prog 200 #[dx db] w fun e w'=>e= .returned (.bool true)∧w=w':=by
 unfold dx;go_in;go_wp2;go_ret;exact⟨rfl,rfl⟩
theorem Mr (db rb cap ob og:Nat)(bl:List (Nat×Nat×Nat))(T:aD)(n depth k:Nat)(w:World)(h:vH w db rb cap ob og bl T n depth k)(hgl:T.gs.length≤64):
  Calls Tryz.prog 255 #[dx db] w fun e w'=>e= .returned (.int .i64 ((T.gs.length+(n*bl.length-k):Nat):Int))∧Below w.heap.size w w':=by
 have afI:=h.lt;have HB:=qd (h.blk);have HR:=qd (h.row);have HT:=qd (h.tab);have ah:=qd (Mod.refl [] w);obtain⟨many1,ae1⟩:=h.many;have nK:=qd (show∀V,Below w.heap.size w V→∀(i:Nat) (b:Nat×Nat×Nat),bl[i]?=some b→fG V b.1 b.2.1 b.2.2 n (pW n k i)from fun V hV i b hb=>(h.qh i b hb).mod (Mod.of_below hV []) (by simp) (by simp) (by simp));have YG:=h.pow.le;clear h;obtain⟨g0,hg0⟩:∃g0,g0=T.gs.length:=⟨_,rfl⟩;rw[←hg0]at hgl⊢;unfold dx;have bc:=HB.out.c6;have mI:=qd (wD db w bc.2.2.2.1);unfold dx at mI;have HG:=qd (sG ob og T w HT.out);rw[←hg0]at HG;unfold cO at HG;clear hg0;go_in;go_wp2_with fail;refine(mI.out).mono ?_;rintro y w1 ⟨rfl,rfl⟩;clear mI;go_wp2_with fail;refine(HG.out).mono ?_;rintro y w1 ⟨rfl,rfl⟩;clear HG;go_wp2;clear bc;have adZ:=HR;clear HB HR HT ah;go_loopw [3,5,23] (fun v3 _ i wr=>∃j:Nat,j≤bl.length∧i= .int .i64 j∧v3= .int .i64 ((g0+rH n k j:Nat):Int)∧Below w.heap.size w wr) (fun _ _ i _=>bl.length-(intOf i).toNat)
 case atStart=>exact⟨0,by omega,rfl,by simp[rH],Below.refl _ _⟩
 case round=>
  obtain⟨j,hj,rfl,rfl,hm⟩:=hrel;by_cases hlt:j<bl.length
  ·have hlt':(j:Int)<(bl.length:Int):=by omega
   have hj0:(0:Int)≤(j:Int):=by omega
   obtain⟨b,hb⟩:∃b,bl[j]?=some b:=⟨_,List.getElem?_eq_getElem hlt⟩;have hbl:=nK.out wr hm j b hb;have hc:=(adZ.out.mod (Mod.of_below hm []) (by simp)).at_ j b.1 (by rw[List.getElem?_map,hb];rfl);have hkl:pW n k j≤n:=Nat.min_le_left _ _
   have hsl:rH n k j≤128:=by rw[BD];have:n*j≤64*2:=Nat.mul_le_mul YG (by omega);omega
   have HC:=qd (sO b.1 n (pW n k j) _ wr hkl YG hbl.blk);unfold nS at HC;have Hm:=qd hm;clear hm hb hbl;go_wp2_with fail;refine(HC.out).mono ?_;rintro y w2 ⟨rfl,hw2⟩;have V8:=qd (show Below w.heap.size w w2 from by rw[←hw2];exact Hm.out.trans ((Below.refl _ _).drew.mono Hm.out.size));clear hw2;go_wp2;go_roundw
   case rel=>exact⟨j+1,by omega,by go_num,by first|go_num|(simp[rH];omega),V8.out⟩
   case measure=>simp[intOf];omega
  ·obtain rfl:j=bl.length:=by omega
   have hlt':¬(bl.length:Int)<(bl.length:Int):=by omega
   go_wp2;go_ret;exact⟨gD (by have:=BD n k bl.length;omega),hm⟩
theorem qF (db rb cap ob og fb bS eb vb bV:Nat)(bD:List Nat)(bs:List (Nat×Nat))(T:aD)(Ts:List aD)(n depth next:Nat)(w:World)(h:oM w db rb cap ob og fb bS eb vb bV bD bs T Ts n depth next)(hgl:T.gs.length≤64)(hnx:next≤T.gs.length):
  Calls Tryz.prog 255 #[dx db] w fun e w'=>e= .returned (.int .i64 ((T.gs.length-next:Nat):Int))∧w.drew=w':=by
 have bc3:=h.blk.cell 3;have bc4:=h.blk.cell 4;simp only[gl]at bc3 bc4;have mI:=qd (uF db fb bs.length bS w bc3);have HL:=qd (KS eb ob og vb bV _ depth next T w h.ev h.tab hnx hgl);unfold dx at mI⊢;clear h;go_in;go_wp2_with fail;refine(mI.out).mono ?_;rintro y w1 ⟨rfl,rfl⟩;go_wp2_with fail;refine(HL.out).mono ?_;rintro y w1 ⟨rfl,rfl⟩;go_wp2;go_ret;exact⟨rfl,rfl⟩
end
end Go.Proofs.YtgiaobmcbbfmnaaGreatDoor
