/- Package evac by its contracts. -/
import Derived.Test.YtjfgpnapccdnlaaGreatDoorCoAE
import Derived.Test.YtjfgpnapccdnlaaGreatDoorSqT
import Derived.Test.YtjfgpnapccdnlaaGreatDoorBuilder
import Derived.Test.YtjfgpnapccdnlaaGreatDoorCoAB
import Derived.Test.YtjfgpnapccdnlaaGreatDoorKit2
namespace Go.Proofs.YtjfgpnapccdnlaaGreatDoor
set_option maxRecDepth 100000
set_option maxHeartbeats 8000000
open Go.RowKit dF Go
section
variable {w : World} {cap depth eb next tb vb : Nat} {ts : List Nat}
def cO (k depth hash:Nat):Nat:=if k=1 then 0 else uH hash depth
structure lQ (w:World)(eb tb vb cap:Nat)(ts:List Nat)(depth next:Nat):Prop where
 blk:aj w eb 364 #[.pointer (some ⟨tb,0,none⟩),.slice (some ⟨vb,0,none⟩) ts.length cap,.int .i64 (depth:Int),.int .i64 (next:Int)]
 row:fA w vb ts
theorem lQ.mod {S:List Nat}{w':World}(h:lQ w eb tb vb cap ts depth next)(hm:Mod S w w')(h1:eb∉S)(h2:vb∉S):lQ w' eb tb vb cap ts depth next:=⟨h.blk.mod hm h1,h.row.mod hm h2⟩
instance {w w':World}{eb tb vb cap:Nat}{ts:List Nat}{depth next:Nat}:Md (lQ w eb tb vb cap ts depth next) w w' (lQ w' eb tb vb cap ts depth next) (fun S=>eb∉S∧vb∉S):=⟨fun h hm hs=>h.mod hm hs.1 hs.2⟩
theorem lQ.lt (h:lQ w eb tb vb cap ts depth next):eb<w.heap.size:=h.blk.lt
theorem lQ.pU (h:lQ w eb tb vb cap ts depth next):vb<w.heap.size:=h.row.lt
theorem R8 {a b:Nat}(h:b≤a):(a:Int)-(b:Int)=((a-b:Nat):Int):=by omega
theorem Ld (eb tb gb vb cap:Nat)(ts:List Nat)(depth next:Nat)(T:aD)(w:World)(h:lQ w eb tb vb cap ts depth next)(ht:TabAt w tb gb T)(hle:next≤T.gs.length)(h64:T.gs.length≤64):
  Calls Tryz.prog 272 #[.pointer (some ⟨eb,0,none⟩)] w fun e w'=>e= .returned (.int .i64 ((T.gs.length-next:Nat):Int))∧w.drew=w':=by
 obtain⟨tQ,tc1,tc2⟩:=ht.cells;obtain⟨n,hn⟩:∃n,n=T.gs.length:=⟨_,rfl⟩;have HG:=qd (sD tb gb T w.drew (ht.below (Below.refl _ _).drew));rw[←hn]at HG hle h64⊢;unfold cK at HG;have HE:=qd (h);have ah:=qd (Mod.refl [] w);have rF:=qd h.blk;clear h ht;have ec:=rF.out.c4
 have hwr:IntKind.i64.wrap ((n:Int)-(next:Int))=((n-next:Nat):Int):=by rw[R8 hle];rw[IntKind.wrap_i64];omega
 clear tQ tc1 tc2 hn;go_in;go_upto_region 1 with fail;refine rT (fun(w':World)=>w'.cell? ⟨eb,0,none⟩=some (.pointer (some ⟨tb,0,none⟩))∧w'.cell? ⟨eb,3,none⟩=some (.int .i64 (next:Int))) [] ?_;have hHeld:=(⟨ec.1,ec.2.2.2⟩:_∧_);refine vW 0 rfl ?_;refine vW 1 rfl ?_;refine vW 2 rfl ?_;refine vT 3 rfl ?_;refine vW 5 rfl ?_;refine vW 6 rfl ?_;refine vW 7 rfl ?_;refine vT 8 rfl ?_;refine nT 4 rfl fun K hK=> ?_;go_simp;refine(HG.out).mono ?_;rintro y w1 ⟨rfl,rfl⟩;go_wp2_with fail;have hHeld:=(⟨ec.1,ec.2.2.2⟩:_∧_);refine kO hK ?_;clear hK K;refine vW 9 rfl ?_;refine vW 10 rfl ?_;refine aX (by kernel_rfl) ?_ _;go_wp2;go_ret;exact⟨rfl,rfl⟩
theorem FM (eb tb vb cap:Nat)(ts:List Nat)(depth next hash t:Nat)(hk:1≤ts.length∧ts.length≤2)(hd:depth≤15)(h64:hash<18446744073709551616)(ht:ts[cO ts.length depth hash]?=some t)(w:World)(h:lQ w eb tb vb cap ts depth next):
  Calls Tryz.prog 201 #[.pointer (some ⟨eb,0,none⟩),.int .u64 (hash:Int)] w fun e w'=>e= .returned (cK t)∧Below w.heap.size w w':=by
 obtain⟨ec0,WV,ec2,ec3⟩:=h.blk.c4;have hr:=h.row.at_ _ _ ht;have HT:=qd ht;unfold cK;clear h ht;by_cases h1:ts.length=1
 ·have hs:cO ts.length depth hash=0:=by unfold cO;rw[if_pos h1]
  rw[hs]at hr;rw[h1]at WV;go_in;go_wp2;go_ret;exact⟨rfl,Below.refl _ _⟩
 ·have h2:ts.length=2:=by omega
  have hs:cO ts.length depth hash=uH hash depth:=by unfold cO;rw[if_neg h1]
  rw[hs]at hr;rw[h2]at WV;clear hs h1 HT;have hbl:uH hash depth<2:=Nat.mod_lt _ (by omega);have HBt:=qd (VY hash depth h64 hd w.drew);generalize uH hash depth=sd at*
  have hsd:(sd:Int)<2:=by omega
  have agJ:(0:Int)≤(sd:Int):=by omega
  have OW:=qd (uw (sd:Int) w.drew);go_in;go_upto_region 3 with fail;refine rT (fun(w':World)=>w'.cell? ⟨eb,1,none⟩=some (.slice (some ⟨vb,0,none⟩) 2 cap)∧w'.cell? ⟨eb,2,none⟩=some (.int .i64 (depth:Int))∧w'.cell? ⟨vb,sd,none⟩=some (.pointer (some ⟨t,0,none⟩))) [] ?_;have hHeld:=(⟨WV,ec2,hr⟩:_∧_∧_);refine vW 0 rfl ?_;refine vW 1 rfl ?_;refine vW 2 rfl ?_;refine vT 3 rfl ?_;refine vW 4 rfl ?_;refine vW 5 rfl ?_;refine vW 6 rfl ?_;refine vW 7 rfl ?_;refine vT 8 rfl ?_;refine nT 9 rfl fun K hK=> ?_;go_simp;refine(HBt.out).mono ?_;rintro y w1 ⟨rfl,rfl⟩;go_wp2_with fail;have hHeld:=(⟨WV,ec2,hr⟩:_∧_∧_);refine kO hK ?_;clear hK K;refine vW 10 rfl ?_;refine vW 11 rfl ?_;refine nT 12 rfl fun K hK=> ?_;go_simp;refine(OW.out).mono ?_;rintro y w1 ⟨rfl,rfl⟩;go_wp2_with fail;have hHeld:=(⟨WV,ec2,hr⟩:_∧_∧_);refine kO hK ?_;clear hK K;refine vW 13 rfl ?_;refine vT 14 rfl ?_;refine vW 15 rfl ?_;refine aX (by kernel_rfl) ?_ _;go_wp2;go_ret;exact⟨rfl,(Below.refl _ _).drew⟩
end
section
variable {j k : Nat} {e : ay} {bs : List (Nat × Nat)} {S : List Nat} {w w' : World} {Ts : List aD}
def DJ (T:aD)(e:ay):aD:=match (aK T.gs e.key e.hash).2.1 with
 |some x=>jA T x.1 x.2 e
 |none=>T
structure OX (T:aD)(e:ay):Prop where
 ok:lY T
 h64:e.hash<18446744073709551616
 none_:(aK T.gs e.key e.hash).1=none
 free:∃i s,(aK T.gs e.key e.hash).2.1=some (i,s)
 room:T.live+T.bO+1≤7*(T.gs.length:Int)
def noT:aD:=⟨[],0,0⟩
def uy (k d:Nat)(st:bJ×List aD)(e:ay):bJ×List aD:=
 (st.1.add cV (aK (st.2.getD (cO k d e.hash) noT).gs e.key e.hash).2.2,st.2.set (cO k d e.hash) (DJ (st.2.getD (cO k d e.hash) noT) e))
def eD (k d:Nat)(st:bJ×List aD)(es:List ay):bJ×List aD:=es.foldl (uy k d) st
def Fits (k d:Nat):List aD→List ay→Prop
 |_,[]=>True
 |Ts,e::es=>(∃T,Ts[cO k d e.hash]?=some T∧OX T e)∧Fits k d (Ts.set (cO k d e.hash) (DJ (Ts.getD (cO k d e.hash) noT) e)) es
theorem Un (k d:Nat)(st:bJ×List aD){es:List ay}(h:es[j]?=some e):eD k d st (es.take (j+1))=uy k d (eD k d st (es.take j)) e:=by
 unfold eD;rw[rE h,List.foldl_append];rfl
theorem R9 {d:Nat}:∀{es:List ay} {x:bJ} {Ts:List aD} {j:Nat} {e:ay},Fits k d Ts es→es[j]?=some e→∃T,(eD k d (x,Ts) (es.take j)).2[cO k d e.hash]?=some T∧OX T e
 | [],_,_,_,_,_,h=>by simp at h
 |e0::es,x,Ts,0,e,hf,h=>by
  simp at h;subst h;exact hf.1
 |e0::es,x,Ts,j+1,e,hf,h=>by
  rw[List.getElem?_cons_succ]at h;have:=R9 (x:=x.add cV (aK (Ts.getD (cO k d e0.hash) noT).gs e0.key e0.hash).2.2) hf.2 h;exact this
structure gP (w:World)(bs:List (Nat×Nat))(Ts:List aD):Prop where
 len:bs.length=Ts.length
 at_:∀(j:Nat) (b:Nat×Nat) (T:aD),bs[j]?=some b→Ts[j]?=some T→TabAt w b.1 b.2 T
 ne:∀(i j:Nat) (b c:Nat×Nat),bs[i]?=some b→bs[j]?=some c→i≠j→b.1≠c.1∧b.1≠c.2∧b.2≠c.1∧b.2≠c.2
def fG (bs:List (Nat×Nat)):List Nat:=bs.flatMap fun b=> [b.1,b.2]
theorem dG:k∈fG bs↔∃b∈bs,k=b.1∨k=b.2:=by simp[fG]
theorem gP.mod (h:gP w bs Ts)(hm:Mod S w w')(hs:∀b∈bs,b.1∉S∧b.2∉S):gP w' bs Ts:=
 ⟨h.len,fun j b T hb hT=>(h.at_ j b T hb hT).mod hm (hs b (List.mem_of_getElem? hb)).1 (hs b (List.mem_of_getElem? hb)).2,h.ne⟩
theorem gP.ak (h:gP w bs Ts){b:Nat×Nat}{T':aD}(hb:bs[j]?=some b)(hT:TabAt w' b.1 b.2 T')(hm:Mod S w w')(hs:∀k∈S,k=b.1∨k=b.2∨∀c∈bs,k≠c.1∧k≠c.2):gP w' bs (Ts.set j T'):=by
 refine⟨by rw[List.length_set];exact h.len,fun i c T hc jS=> ?_,h.ne⟩;rw[List.getElem?_set]at jS;by_cases hij:j=i
 ·subst hij;rw[hb]at hc;cases hc;obtain⟨hlt,_⟩:=List.getElem?_eq_some_iff.1 hb;rw[if_pos rfl,if_pos (by rw[←h.len];exact hlt)]at jS;cases jS;exact hT
 ·rw[if_neg hij]at jS;have hne:=h.ne j i b c hb hc hij;have hcm:=List.mem_of_getElem? hc;refine(h.at_ i c T hc jS).mod hm (fun hk=> ?_) (fun hk=> ?_)
  ·rcases hs _ hk with e|e|e
   ·exact hne.1 e.symm
   ·exact hne.2.2.1 e.symm
   ·exact(e c hcm).1 rfl
  ·rcases hs _ hk with e|e|e
   ·exact hne.2.1 e.symm
   ·exact hne.2.2.2 e.symm
   ·exact(e c hcm).2 rfl
end
theorem Uo {W0:World}{E:Nat→Addr}(tb gb:Nat)(T:aD)(P:MP)(x:bJ)(c:bF)(g:Nat)(hg:g<T.gs.length)(hok:lY T)(w:World)(h:TabAt w tb gb T)(hM:aQ w P x)(hE:Env W0 E w)(hmt:P.mb≠tb)(lX:P.mb≠gb)(hb0:W0.heap.size≤P.mb)(hb1:W0.heap.size≤tb)(hb2:W0.heap.size≤gb):
  Calls Tryz.prog 308 #[cK tb,aN (some ⟨P.mb,P.mo,none⟩) c,.int .i64 (g:Int)] w fun e w'=>∃A cc,e= .returned (.tuple #[.slice A (bI (T.gs.getD g [])).length cc,.nilIface])∧
   w'.ownsRow w.heap.size 148 3 (.slice A (bI (T.gs.getD g [])).length cc) (bI (T.gs.getD g [])).length ((bI (T.gs.getD g [])).flatMap aO)∧TabAt w' tb gb (takeN T g 8)∧aQ w' P (x.add c 1)∧Mod [P.mb,tb,gb] w w':=by
 have hB:=(Below.refl w.heap.size w).alloc (Nat.le_refl _) (.cells #[.pointer (some ⟨P.mb,P.mo,none⟩),.int .i64 c.p,.int .i64 c.v,.int .i64 c.u] 145);have hL:=aj.new w 145 #[.pointer (some ⟨P.mb,P.mo,none⟩),.int .i64 c.p,.int .i64 c.v,.int .i64 c.u];obtain⟨W,hW⟩:∃W,W=w.alloc (.cells #[.pointer (some ⟨P.mb,P.mo,none⟩),.int .i64 c.p,.int .i64 c.v,.int .i64 c.u] 145):=⟨_,rfl⟩;rw[←hW]at hB hL;obtain⟨Oy,Oz,OA,OB⟩:=hL.c4;have hml:=hM.lt;have htl:=h.aU;have hgl:=h.aV;have hB0:=hE.size;have HW:=qd hW
 have hg0:(g:Int)<(T.gs.length:Int):=by omega
 have wJ:=qd (I5 tb gb T P.mb P.mt P.pre P.post P.mo x.all x.last P.m c g hg W (h.below hB) (hM.below hB) hmt lX);have Le:=qd hok;unfold cK aN bg at wJ;unfold cK aN;have HT:=qd (h.below hB);have av:=qd (hE.next hB);have ah:=qd (Mod.of_below hB [P.mb,tb,gb]);clear hW hB h hM hL hE hok;generalize hGn:T.gs.getD g []=G;go_in;go_upto_region 1 with fail;rw[←HW.out];go_wp2_with fail;refine(wJ.out).mono ?_;rintro x w1 ⟨rfl,hM1,hm⟩;clear Oy Oz OA OB;replace HT:=qM hm HT;replace av:=qM hm av;replace ah:=qU ah hm;clear hm;have HM:=qd (show aQ w1 P (x.add c 1)from hM1);clear hM1;go_upto_region 4 with fail;have q1:=qJ HT.out.aU (qJ HT.out.aV (qJ HM.out.lt ah.out.size));refine dQ 198 #[.pointer (some ⟨gb,g*25,none⟩)] ?_;rintro w2 ⟨hnew,hb⟩;obtain⟨vb,hvb⟩:∃vb,vb=w1.heap.size:=⟨_,rfl⟩;rw[←hvb]at hnew⊢
 replace hvb:w1.heap.size≤vb:=by omega
 replace HT:=qB hb HT;replace av:=qB hb av;replace HM:=qB hb HM;replace ah:=qT ah hb;have HV:=qd (hnew);clear hnew hb;have z5:=ah.out.size;have Ap:=HV.out.cell 0;simp only[List.getElem?_toArray,List.getElem?_cons_zero]at Ap;have dX:=qd (FB gb 254 _ _ (g*25) _ w2 (HT.out.group g hg) av.out.tz);rw[hGn]at dX;unfold bg at dX;go_wp2_with fail;refine(dX.out).mono ?_;rintro x w3 ⟨A,cc,rfl,hO,hb⟩;clear Ap;replace HT:=qB hb HT;replace av:=qB hb av;replace HM:=qB hb HM;replace HV:=qB hb HV;replace ah:=qT ah hb;clear hb;have hwl:=ah.out.size;have HO:=qd (hO);clear hO;have q6:=qJ HT.out.aU (qJ HT.out.aV (qJ HM.out.lt HV.out.lt));clear HW;go_wp2;go_loopw [11,12,13,26] (fun _ _ _ i wr=>∃k:Nat,k≤8∧i= .int .i64 k∧TabAt wr tb gb (takeN T g k)∧aQ wr P (x.add c 1)∧Env W0 E wr∧wr.ownsRow w2.heap.size 148 3 (.slice A (bI G).length cc) (bI G).length ((bI G).flatMap aO)∧aj wr vb 198 #[.pointer (some ⟨gb,g*25,none⟩)]∧Mod [P.mb,tb,gb] w wr) (fun _ _ _ i _=>8-(intOf i).toNat)
 case atStart=>exact⟨0,by omega,rfl,HT.out,HM.out,av.out,HO.out,HV.out,ah.out⟩
 case round=>
  clear HT HM av HO HV ah;obtain⟨k,hk,rfl,hT,hM,hE,hO,hV,hm⟩:=hrel;by_cases hlt:k<8
  ·have hlt':(k:Int)<8:=by omega
   have HT:=qd (hT);have HM:=qd (hM);have av:=qd (hE);have HO:=qd (hO);have HV:=qd (hV);have ah:=qd (hm);clear hT hM hE hO hV hm
   have hgk:g<(takeN T g k).gs.length:=by rw[sG];exact hg
   have HG:=qd (HT.out.group g hgk);have HOe:=qd (Le.out.tkN g k);have Ap:=HV.out.cell 0;simp only[List.getElem?_toArray,List.getElem?_cons_zero]at Ap
   cases hsl:aG (takeN T g k).gs g k with
   |full e=>
    have kP:=qd (Fz gb 254 _ _ (g*25) _ wr HG.out k hlt e (by unfold aG at hsl;exact hsl));unfold bg aW at kP;clear HG;go_wp2_with fail;refine(kP.out).mono ?_;rintro x w4 ⟨rfl,hb⟩;clear Ap;replace HT:=qB hb HT;replace HM:=qB hb HM;replace av:=qB hb av;replace HO:=qB hb HO;replace HV:=qB hb HV;replace ah:=qT ah hb;clear hb kP;go_upto_region 10 with fail;have q1:=qJ HT.out.aU (qJ HT.out.aV (qJ HM.out.lt (qJ HV.out.lt ah.out.size)));refine dQ 148 #[.int .u64 (e.key:Int),.int .u64 (e.val:Int),.int .u64 (e.hash:Int)] ?_;rintro w5 ⟨hnew,hb⟩;replace HT:=qB hb HT;replace HM:=qB hb HM;replace av:=qB hb av;replace HO:=qB hb HO;replace HV:=qB hb HV;replace ah:=qT ah hb;have HD:=qd (hnew);clear hnew hb;have Ap:=HV.out.cell 0;simp only[List.getElem?_toArray,List.getElem?_cons_zero]at Ap;have DK:=qd (Q5 tb gb (takeN T g k) g k hgk hlt e hsl HOe.out.small w5 HT.out);unfold cK Ox at DK;clear HT HD;go_wp2_with fail;refine(DK.out).mono ?_;rintro x w6 ⟨rfl,hT6,hm⟩;clear Ap;replace HM:=qM hm HM;replace av:=qM hm av;replace HO:=qM hm HO;replace HV:=qM hm HV;replace ah:=qU ah hm;clear hm;have HT:=qd (hT6);clear hT6;have jg:=qd (show takeN T g (k+1)=lD (takeN T g k) g k from by show fM _ _ _=_;unfold fM;rw[hsl];rfl);clear hsl;go_wp2;go_roundw
    case rel=>exact⟨k+1,by omega,by go_num,by rw[jg.out];exact HT.out,HM.out,av.out,HO.out,HV.out,ah.out⟩
    case measure=>simp[intOf];omega
   |empty=>
    have kP:=qd (KT gb 254 _ _ (g*25) _ wr HG.out k hlt (by unfold aG at hsl;rw[hsl];rfl) E (av.out.errs.at_ 5 (by omega) (by omega)));unfold bg aW at kP;clear HG;go_wp2_with fail;refine(kP.out).mono ?_;rintro x w4 ⟨rfl,hb⟩;clear Ap;replace HT:=qB hb HT;replace HM:=qB hb HM;replace av:=qB hb av;replace HO:=qB hb HO;replace HV:=qB hb HV;replace ah:=qT ah hb;clear hb kP;have jg:=qd (show takeN T g (k+1)=takeN T g k from by show fM _ _ _=_;unfold fM;rw[hsl];rfl);clear hsl;go_upto_region 11 with fail;have q1:=qJ HT.out.aU (qJ HT.out.aV (qJ HM.out.lt (qJ HV.out.lt ah.out.size)));refine dQ 148 #[.int .u64 0,.int .u64 0,.int .u64 0] ?_;rintro w5 ⟨hnew,hb⟩;replace HT:=qB hb HT;replace HM:=qB hb HM;replace av:=qB hb av;replace HO:=qB hb HO;replace HV:=qB hb HV;replace ah:=qT ah hb;have HD:=qd (hnew);clear hnew hb;go_wp2;go_roundw
    case rel=>exact⟨k+1,by omega,by go_num,by rw[jg.out];exact HT.out,HM.out,av.out,HO.out,HV.out,ah.out⟩
    case measure=>simp[intOf];omega
   |qg=>
    have kP:=qd (KT gb 254 _ _ (g*25) _ wr HG.out k hlt (by unfold aG at hsl;rw[hsl];rfl) E (av.out.errs.at_ 5 (by omega) (by omega)));unfold bg aW at kP;clear HG;go_wp2_with fail;refine(kP.out).mono ?_;rintro x w4 ⟨rfl,hb⟩;clear Ap;replace HT:=qB hb HT;replace HM:=qB hb HM;replace av:=qB hb av;replace HO:=qB hb HO;replace HV:=qB hb HV;replace ah:=qT ah hb;clear hb kP;have jg:=qd (show takeN T g (k+1)=takeN T g k from by show fM _ _ _=_;unfold fM;rw[hsl];rfl);clear hsl;go_upto_region 11 with fail;have q1:=qJ HT.out.aU (qJ HT.out.aV (qJ HM.out.lt (qJ HV.out.lt ah.out.size)));refine dQ 148 #[.int .u64 0,.int .u64 0,.int .u64 0] ?_;rintro w5 ⟨hnew,hb⟩;replace HT:=qB hb HT;replace HM:=qB hb HM;replace av:=qB hb av;replace HO:=qB hb HO;replace HV:=qB hb HV;replace ah:=qT ah hb;have HD:=qd (hnew);clear hnew hb;go_wp2;go_roundw
    case rel=>exact⟨k+1,by omega,by go_num,by rw[jg.out];exact HT.out,HM.out,av.out,HO.out,HV.out,ah.out⟩
    case measure=>simp[intOf];omega
  ·obtain rfl:k=8:=by omega
   have HF:=qd (And.intro hT (And.intro hM (And.intro (qK hO (show w.heap.size≤w2.heap.size by omega)) hm)));clear hT hM hE hO hV hm
   have hlt':¬((8:Nat):Int)<8:=by omega
   go_wp2;refine bodyPost_ret (v:= .tuple #[.slice A (bI G).length cc,.nilIface]) (by simp[results,Tryz.results308,go_sem]) rfl ⟨A,cc,rfl,HF.out.2.2.1,HF.out.1,HF.out.2.1,HF.out.2.2.2⟩
theorem WW {W0:World}{E:Nat→Addr}(eb tb gb vb cap:Nat)(depth next:Nat)(bs:List (Nat×Nat))(T:aD)(Ts:List aD)(P:MP)(x:bJ)(hk:1≤bs.length∧bs.length≤2)(hd:depth≤15)(w:World)
  (h:lQ w eb tb vb cap (bs.map Prod.fst) depth next) (ht:TabAt w tb gb T) (hok:lY T) (hn:next<T.gs.length) (hts:gP w bs Ts) (hfit:Fits bs.length depth Ts (bI (T.gs.getD next [])))
  (hM:aQ w P x) (hE:Env W0 E w) (hbd:∀b∈bs,b.1∉[P.mb,eb,vb,tb,gb]∧b.2∉[P.mb,eb,vb,tb,gb]) (hmd:P.mb∉[eb,vb,tb,gb]) (hed:eb∉[vb,tb,gb]) (hvd:vb∉[tb,gb])
  (hb0:W0.heap.size≤P.mb) (hb1:W0.heap.size≤tb) (hb2:W0.heap.size≤gb) (_:W0.heap.size≤eb) (hb4:∀b∈bs,W0.heap.size≤b.1∧W0.heap.size≤b.2):
  Calls Tryz.prog 304 #[.pointer (some ⟨eb,0,none⟩),.pointer (some ⟨P.mb,P.mo,none⟩)] w fun e w'=>e= .returned (.bool true)∧lQ w' eb tb vb cap (bs.map Prod.fst) depth (next+1)∧TabAt w' tb gb (takeN T next 8)∧
   gP w' bs (eD bs.length depth ((x.add (cU 1) 1).add cV 1,Ts) (bI (T.gs.getD next []))).2∧aQ w' P (eD bs.length depth ((x.add (cU 1) 1).add cV 1,Ts) (bI (T.gs.getD next []))).1∧Mod (P.mb::eb::tb::gb::fG bs) w w':=by
 simp only[List.mem_cons,List.not_mem_nil,or_false,not_or]at hmd hed hvd hbd;have hml:=hM.lt;have hB0:=hE.size;have jh:=qd (Ld eb tb gb vb cap _ depth next T w h ht (by omega) hok.pow.le);have hle:=hok.pow.le
 obtain⟨dn,hdn⟩:∃dn,dn=T.gs.length-next:=⟨_,rfl⟩
 rw[←hdn]at jh
 have hd0:¬(dn:Int)=0:=by omega
 have hd1:¬dn=0:=by omega
 obtain⟨bn,hbn⟩:∃bn,bn=(bs.map Prod.fst).length:=⟨_,rfl⟩;have hbl:(bs.map Prod.fst).length=bs.length:=List.length_map ..;have Le:=qd hok
 have hbs:∀b∈bs,b.1<w.heap.size∧b.2<w.heap.size:=fun b hb=>by
  obtain⟨j,hj⟩:=List.getElem?_of_mem hb;obtain⟨hlt,_⟩:=List.getElem?_eq_some_iff.1 hj
  have hlt2:j<Ts.length:=by rw[←hts.len];exact hlt
  have:=hts.at_ j b Ts[j] hj (List.getElem?_eq_getElem hlt2);exact⟨this.aU,this.aV⟩
 obtain⟨es,hes⟩:∃es,es=bI (T.gs.getD next []):=⟨_,rfl⟩;rw[←hes]at hfit⊢;have HEs:=qd hes;clear hes;have sI:=qd hbd;have HV:=qd (h);have HT:=qd (ht);have dD:=qd (hts);have av:=qd (hE);have HM:=qd (hM);have ah:=qd (Mod.refl (P.mb::eb::tb::gb::fG bs) w);have HF:=qd hfit;clear h ht hts hE hM hok hdn hfit;have q1:=qJ HV.out.lt (qJ HV.out.pU (qJ HT.out.aU (qJ HT.out.aV HM.out.lt)));go_in;go_upto_region 1 with fail;go_wp2_with fail;refine(jh.out).mono ?_;rintro y w1 ⟨rfl,hw1⟩;have hm:Mod [] w w1:=hw1▸Mod.drewN [] w 1;clear hw1 jh;replace HV:=qM hm HV;replace HT:=qM hm HT;replace dD:=qd (dD.out.mod hm (fun b hb=>by have hh:=hbd b hb;simp<;>omega));replace av:=qM hm av;replace HM:=qM hm HM;have z6:=(hm).size;replace ah:=qU ah hm;clear hm;have HU:=qd (sw P.mb P.mt P.pre P.post P.mo _ _ P.m 1 (by omega) w1 HM.out);clear HM;go_wp2_with fail;refine(HU.out).mono ?_;rintro x w2 ⟨rfl,hM2,hm⟩;replace HV:=qM hm HV;replace HT:=qM hm HT;replace dD:=qd (dD.out.mod hm (fun b hb=>by have hh:=hbd b hb;simp<;>omega));replace av:=qM hm av;have z7:=(hm).size;replace ah:=qU ah hm;clear hm;have HM:=qd (show aQ w2 P (x.add (cU 1) 1)from hM2);clear hM2 HU;go_upto_region 4 with fail;have hEb:=HV.out.blk;rw[←hbn]at hEb;have rF:=qd (hEb);clear hEb;have ec:=rF.out.c4;refine rT (fun(w':World)=>w'.cell? ⟨eb,0,none⟩=some (.pointer (some ⟨tb,0,none⟩))∧w'.cell? ⟨eb,3,none⟩=some (.int .i64 (next:Int))) [] ?_;have hHeld:=(⟨ec.1,ec.2.2.2⟩:_∧_);refine vW 0 rfl ?_;refine vW 1 rfl ?_;refine vW 2 rfl ?_;refine vT 3 rfl ?_
 refine vW 4 rfl ?_;refine vW 6 rfl ?_;refine vW 7 rfl ?_;refine vW 8 rfl ?_;refine vT 9 rfl ?_;refine vW 15 rfl ?_;refine nT 5 rfl fun K hK=> ?_;go_simp;refine(vQ (some ⟨P.mb,P.mo,none⟩) _).mono ?_;rintro y w3 ⟨rfl,hb⟩;replace hb:Below w2.heap.size w2 w3:=bP hb (Below.refl _ _).drew;unfold aN;clear ec;replace HV:=qB hb HV;replace HT:=qB hb HT;replace dD:=qd (dD.out.mod (Mod.of_below hb []) (by simp));replace av:=qB hb av;replace HM:=qB hb HM;replace rF:=qB hb rF;have z8:=(hb).size;replace ah:=qT ah hb;clear hb;have ec:=rF.out.c4;go_wp2_with fail;have hHeld:=(⟨ec.1,ec.2.2.2⟩:_∧_);refine kO hK ?_;clear hK K;refine nT 10 rfl fun K hK=> ?_;go_simp;have mO:=qd (Uo tb gb T P (x.add (cU 1) 1) cV next hn Le.out w3 HT.out HM.out av.out (by omega) (by omega) hb0 hb1 hb2);unfold cK aN cV at mO;refine(mO.out).mono ?_;rintro y w4 ⟨A,cc,rfl,xY,R6,IW,hm⟩;clear mO HT HM ec;replace HV:=qM hm HV;replace dD:=qd (dD.out.mod hm (fun b hb=>by have hh:=hbd b hb;simp<;>omega));replace av:=qM hm av;replace rF:=qM hm rF;have z9:=(hm).size;replace ah:=qU ah hm;have HT:=qd (R6);have HM:=qd (IW);have fV:=qd (xY);clear R6 IW xY hm;have ec:=rF.out.c4;rw[←HEs.out]at fV⊢;go_wp2_with fail;have hHeld:=(⟨ec.1,ec.2.2.2⟩:_∧_);refine kO hK ?_;clear hK K;refine vW 11 rfl ?_;refine vW 12 rfl ?_;refine nT 13 rfl fun K hK=> ?_;go_simp;refine(WS A es.length cc w4).mono ?_;rintro y w5 ⟨rfl,rfl⟩;go_wp2_with fail;have hHeld:=(⟨ec.1,ec.2.2.2⟩:_∧_);refine kO hK ?_;clear hK K;refine vW 14 rfl ?_
 refine aX (by kernel_rfl) ?_ _
 have aeX:es.length≤8:=by have h1:=yU (T.gs.getD next []);have h2:=Le.out.wide.at_ hn;rw[HEs.out];omega
 clear hd0 hd1;go_wp2;clear ec rF;obtain⟨st0,OY⟩:∃st0:bJ×List aD,st0=((x.add (cU 1) 1).add cV 1,Ts):=⟨_,rfl⟩;go_loopw [6,7,8,29] (fun _ _ _ i wr=>∃j:Nat,j≤es.length∧i= .int .i64 j∧lQ wr eb tb vb cap (bs.map Prod.fst) depth next∧TabAt wr tb gb (takeN T next 8)∧gP wr bs (eD bs.length depth st0 (es.take j)).2∧aQ wr P (eD bs.length depth st0 (es.take j)).1∧Env W0 E wr∧wr.ownsRow w3.heap.size 148 3 (.slice A es.length cc) es.length (es.flatMap aO)∧Mod (P.mb::eb::tb::gb::fG bs) w wr) (fun _ _ _ i _=>es.length-(intOf i).toNat)
 case atStart=>exact⟨0,by omega,rfl,HV.out,HT.out,by rw[OY];exact dD.out,by rw[OY];exact HM.out,av.out,fV.out,ah.out⟩
 case round=>
  clear HV HT dD HM av fV ah;obtain⟨j,hj,rfl,hV,hT,hTs,hM,hE,xY,hm⟩:=hrel;by_cases hlt:j<es.length
  ·have hlt':(j:Int)<(es.length:Int):=by omega
   have hj0:(0:Int)≤(j:Int):=by omega
   obtain⟨e,he⟩:∃e,es[j]?=some e:=⟨_,List.getElem?_eq_getElem hlt⟩;obtain⟨g,rfl,hgb,k0,k1,k2,hjn⟩:=Lb xY he;have dO:=qd (Un bs.length depth st0 he);obtain⟨T1,hT1,hcp⟩:=R9 (x:=(x.add (cU 1) 1).add cV 1) HF.out he;rw[←OY]at hT1;clear he hjn;obtain⟨st,hst⟩:∃st,st=eD bs.length depth st0 (es.take j):=⟨_,rfl⟩;rw[←hst]at hTs hM dO hT1;clear hst;obtain⟨sd,hsd⟩:∃sd,sd=cO bs.length depth e.hash:=⟨_,rfl⟩;have HSd:=qd hsd;rw[←hsd]at hT1;clear hsd;obtain⟨b,hb⟩:∃b,bs[sd]?=some b:=⟨_,List.getElem?_eq_getElem (by rw[hTs.len];exact(List.getElem?_eq_some_iff.1 hT1).1)⟩;have oQ:=List.mem_of_getElem? hb;have hbb:=hbd b oQ;have agK:=hbs b oQ;have agL:=hb4 b oQ;have FN:=qd hb;have HT1:=qd hT1;have nL:=qd hcp;clear hb hT1 hcp;have HV:=qd (hV);have HT:=qd (hT);have dD:=qd (hTs);have HM:=qd (hM);have av:=qd (hE);have fV:=qd (xY);have ah:=qd (hm);clear hV hT hTs hM hE xY hm;have Sb:=qd (fun(V:World) (hV:lQ V eb tb vb cap (bs.map Prod.fst) depth next)=>FM eb tb vb cap (bs.map Prod.fst) depth next e.hash b.1 (by rw[List.length_map];exact hk) hd nL.out.h64 (by rw[List.length_map,←HSd.out,List.getElem?_map,FN.out];rfl) V hV);unfold cK at Sb;go_upto_region 7 with fail;have q1:=qJ HV.out.lt (qJ HV.out.pU (qJ HT.out.aU (qJ HT.out.aV (qJ HM.out.lt ah.out.size))));refine dQ 148 #[.int .u64 (e.key:Int),.int .u64 (e.val:Int),.int .u64 (e.hash:Int)] ?_;rintro w6 ⟨hnew,hb⟩;obtain⟨xb,hxb⟩:∃xb,xb=wr.heap.size:=⟨_,rfl⟩;rw[←hxb]at hnew⊢
   replace hxb:wr.heap.size≤xb:=by omega
   clear k0 k1 k2;replace HV:=qB hb HV;replace HT:=qB hb HT;replace dD:=qd (dD.out.mod (Mod.of_below hb []) (by simp));replace HM:=qB hb HM;replace av:=qB hb av;replace fV:=qB hb fV;have z7:=(hb).size;replace ah:=qT ah hb;have HX:=qd (hnew);clear hnew hb;have xc:=HX.out.c3;obtain⟨i,s,hfr⟩:=nL.out.free;have OD:=qd hfr;clear hfr;refine rT (fun(w':World)=>w'.cell? ⟨xb,0,none⟩=some (.int .u64 (e.key:Int))∧w'.cell? ⟨xb,1,none⟩=some (.int .u64 (e.val:Int))∧w'.cell? ⟨xb,2,none⟩=some (.int .u64 (e.hash:Int))) [] ?_;have hHeld:=(⟨xc.1,xc.2.1,xc.2.2⟩:_∧_∧_);refine vW 0 rfl ?_;refine vW 1 rfl ?_;refine vT 2 rfl ?_;refine vW 4 rfl ?_;refine vT 6 rfl ?_;refine nT 3 rfl fun K hK=> ?_;go_simp;refine(Sb.out _ (HV.out.mod (Mod.drewN [] w6 1) (by simp) (by simp))).mono ?_;rintro y w7 ⟨rfl,hb⟩;replace hb:Below w6.heap.size w6 w7:=bP hb (Below.refl _ _).drew;clear xc;replace HV:=qB hb HV;replace HT:=qB hb HT;replace dD:=qd (dD.out.mod (Mod.of_below hb []) (by simp));replace HM:=qB hb HM;replace av:=qB hb av;replace fV:=qB hb fV;replace HX:=qB hb HX;have z8:=(hb).size;replace ah:=qT ah hb;clear hb;have xc:=HX.out.c3;go_wp2_with fail;have hHeld:=(⟨xc.1,xc.2.1,xc.2.2⟩:_∧_∧_);refine kO hK ?_;clear hK K;refine nT 5 rfl fun K hK=> ?_;go_simp;refine(vQ (some ⟨P.mb,P.mo,none⟩) _).mono ?_;rintro y w8 ⟨rfl,hb⟩;unfold aN;clear xc;replace HV:=qB hb HV;replace HT:=qB hb HT;replace dD:=qd (dD.out.mod (Mod.of_below hb []) (by simp));replace HM:=qB hb HM;replace av:=qB hb av;replace fV:=qB hb fV
   replace HX:=qB hb HX;have z9:=(hb).size;replace ah:=qT ah hb;clear hb;have xc:=HX.out.c3;go_wp2_with fail;have hHeld:=(⟨xc.1,xc.2.1,xc.2.2⟩:_∧_∧_);refine kO hK ?_;clear hK K;refine nT 7 rfl fun K hK=> ?_;go_simp;have uX:=qd (MN b.1 b.2 T1 P.mb P.mt P.pre P.post P.mo st.1.all st.1.last P.m cV e w8 (dD.out.at_ sd b T1 FN.out HT1.out) nL.out.ok.pow nL.out.h64 HM.out (by omega) (by omega) av.out.tz (by have:=av.out.adi;omega) nL.out.none_ i s OD.out nL.out.ok.small nL.out.room);unfold cK aN aW cV at uX;refine(uX.out).mono ?_;rintro y w9 ⟨rfl,hT9,hM9,hm⟩;clear uX HM;have adj:=dD.out.ak FN.out hT9 hm (by intro q hq;simp at hq;rcases hq with rfl|rfl|rfl;exact .inr (.inr (fun c hc=>by have:=hbd c hc;omega));exact .inl rfl;exact .inr (.inl rfl));clear dD hT9;have hm0:Mod (P.mb::eb::tb::gb::fG bs) w8 w9:=hm.more (by intro q hq;simp at hq;rcases hq with rfl|rfl|rfl;simp;simp[dG];exact .inr (.inr (.inr (.inr ⟨_,_,oQ,.inl rfl⟩)));simp[dG];exact .inr (.inr (.inr (.inr ⟨_,_,oQ,.inr rfl⟩))));have WX:=ah;clear ah;have ah:=qd (Mod.refl [P.mb,b.1,b.2] w8);clear xc;replace HV:=qM hm HV;replace HT:=qM hm HT;replace av:=qM hm av;replace fV:=qM hm fV;replace HX:=qM hm HX;have z10:=(hm).size;replace ah:=qU ah hm;clear ah;have ah:=qd (WX.out.then hm0);clear WX hm0 hm;have dD:=qd (adj);have HM:=qd (show aQ w9 P (st.1.add cV (aK T1.gs e.key e.hash).2.2)from hM9);clear adj hM9;have xc:=HX.out.c3;go_wp2_with fail;have hHeld:=(⟨xc.1,xc.2.1,xc.2.2⟩:_∧_∧_);refine kO hK ?_;clear hK K;refine vW 8 rfl ?_
   refine vW 9 rfl ?_;refine vW 10 rfl ?_;refine vW 11 rfl ?_;refine vW 12 rfl ?_;refine aX (by kernel_rfl) ?_ _
   have hgd:st.2.getD sd noT=T1:=by rw[List.getD_eq_getElem?_getD,HT1.out];rfl
   have jg:=qd (show eD bs.length depth st0 (es.take (j+1))=(st.1.add cV (aK T1.gs e.key e.hash).2.2,st.2.set sd (jA T1 i s e))from by rw[dO.out];unfold uy;rw[←HSd.out,hgd];unfold DJ;rw[OD.out]);clear hgd;have DL:=qd (DI w9);go_wp2_with fail;refine(DL.out).mono ?_;rintro y Sc ⟨rfl,rfl⟩;clear xc;go_wp2;go_roundw
   case rel=>exact⟨j+1,by omega,by go_num,HV.out,HT.out,by rw[jg.out];exact dD.out,by rw[jg.out];exact HM.out,av.out,fV.out,ah.out⟩
   case measure=>simp[intOf];omega
  ·obtain rfl:j=es.length:=by omega
   have hlt':¬(es.length:Int)<(es.length:Int):=by omega
   rw[List.take_length]at hTs hM;have rF:=qd (hV.blk);have HW:=qd (hV.row);have HT:=qd (hT);have dD:=qd (hTs);have HM:=qd (hM);have ah:=qd (hm);clear hV hT hTs hM hE xY hm;have q1:=qJ rF.out.lt (qJ HW.out.lt (qJ HT.out.aU (qJ HT.out.aV HM.out.lt)));have ec:=rF.out.c4;have ef:=rF.out.f4;go_upto_region 11 with fail;have q6:=qJ rF.out.lt (qJ HW.out.lt (qJ HT.out.aU (qJ HT.out.aV HM.out.lt)));refine Io rF.out ?_;rintro Sd ⟨hnew,hm⟩;simp only[pt]at hnew;clear ec ef;replace HW:=qM hm HW;replace HT:=qM hm HT;replace dD:=qd (dD.out.mod hm (fun b hb=>by have hh:=hbd b hb;simp<;>omega));replace HM:=qM hm HM;have z11:=(hm).size;replace ah:=qU ah hm;replace rF:=qd hnew;clear hnew hm;go_wp2;go_ret;exact⟨rfl,⟨rF.out,HW.out⟩,HT.out,by rw[←OY];exact dD.out,by rw[←OY];exact HM.out,ah.out⟩
section
def pV (n k i:Nat):Nat:=min n (k-i*n)
def bC (db rb ob og:Nat)(bl:List (Nat×Nat×Nat)):List Nat:=db::rb::ob::og::bl.flatMap fun b=> [b.1,b.2.1,b.2.2]
structure uY (w:World)(db rb cap ob og:Nat)(bl:List (Nat×Nat×Nat))(T:aD)(n depth k:Nat):Prop where
 blk:aj w db 326 #[.pointer (some ⟨ob,0,none⟩),.int .i64 (depth:Int),.slice (some ⟨rb,0,none⟩) bl.length cap,.slice none 0 0,.pointer none,.bool false]
 row:fA w rb (bl.map fun b=>b.1)
 qj:∀(i:Nat) (b:Nat×Nat×Nat),bl[i]?=some b→fE w b.1 b.2.1 b.2.2 n (pV n k i)
 tab:TabAt w ob og T
 pow:Pw n
 many:1≤bl.length∧bl.length≤2
 lt:k<n*bl.length
 deep:depth≤15
 nd:(bC db rb ob og bl).Nodup
def aS (db rb fb eb vb ob og:Nat)(bE:List Nat)(bs:List (Nat×Nat)):List Nat:=db::rb::fb::eb::vb::ob::og::(bE++fG bs)
structure oU (w:World)(db rb cap ob og fb bQ eb vb bT:Nat)(bE:List Nat)(bs:List (Nat×Nat))(T:aD)(Ts:List aD)(n depth next:Nat):Prop where
 blk:aj w db 326 #[.pointer (some ⟨ob,0,none⟩),.int .i64 (depth:Int),.slice (some ⟨rb,0,none⟩) bE.length cap,.slice (some ⟨fb,0,none⟩) bs.length bQ,.pointer (some ⟨eb,0,none⟩),.bool false]
 row:fA w rb bE
 qj:∀b∈bE,aj w b 371 #[.pointer none,.int .i64 (n:Int),.int .i64 (n:Int)]
 fresh:fA w fb (bs.map Prod.fst)
 ev:lQ w eb ob vb bT (bs.map Prod.fst) depth next
 tab:TabAt w ob og T
 tabs:gP w bs Ts
 pow:Pw n
 many:1≤bs.length∧bs.length≤2
 eq:bE.length=bs.length
 deep:depth≤15
 nd:(aS db rb fb eb vb ob og bE bs).Nodup
section
variable {w w' : World} {db rb cap ob og fb bQ eb vb bT : Nat} {bl : List (Nat × Nat × Nat)} {bE : List Nat} {bs : List (Nat × Nat)} {T : aD} {Ts : List aD} {n depth k next : Nat}
theorem uZ {b:Nat×Nat×Nat}(h:b∈bl):b.1∈bC db rb ob og bl∧b.2.1∈bC db rb ob og bl∧b.2.2∈bC db rb ob og bl:=by
 have h0:∀q∈[b.1,b.2.1,b.2.2],q∈bl.flatMap fun b=> [b.1,b.2.1,b.2.2]:=fun q hq=>List.mem_flatMap.2 ⟨b,h,hq⟩;have h1:=h0 b.1 (by simp);have h2:=h0 b.2.1 (by simp);have h3:=h0 b.2.2 (by simp);unfold bC;simp only[List.mem_cons];exact⟨.inr (.inr (.inr (.inr h1))),.inr (.inr (.inr (.inr h2))),.inr (.inr (.inr (.inr h3)))⟩
theorem uY.mod {S:List Nat}(h:uY w db rb cap ob og bl T n depth k)(hm:Mod S w w')(hs:∀q∈bC db rb ob og bl,q∉S):uY w' db rb cap ob og bl T n depth k:=
 ⟨h.blk.mod hm (hs _ (by simp[bC])),h.row.mod hm (hs _ (by simp[bC])),fun i b hb=>by
  obtain⟨h1,h2,h3⟩:=uZ (db:=db) (rb:=rb) (ob:=ob) (og:=og) (List.mem_of_getElem? hb)
  exact(h.qj i b hb).mod hm (hs _ h1) (hs _ h2) (hs _ h3),
  h.tab.mod hm (hs _ (by simp[bC])) (hs _ (by simp[bC])),h.pow,h.many,h.lt,h.deep,h.nd⟩
theorem oU.mod {S:List Nat}(h:oU w db rb cap ob og fb bQ eb vb bT bE bs T Ts n depth next)(hm:Mod S w w')(hs:∀q∈aS db rb fb eb vb ob og bE bs,q∉S):oU w' db rb cap ob og fb bQ eb vb bT bE bs T Ts n depth next:=
 ⟨h.blk.mod hm (hs _ (by simp[aS])),h.row.mod hm (hs _ (by simp[aS])),fun b hb=>(h.qj b hb).mod hm (hs _ (by unfold aS;simp[hb])),h.fresh.mod hm (hs _ (by simp[aS])),
  h.ev.mod hm (hs _ (by simp[aS])) (hs _ (by simp[aS])),h.tab.mod hm (hs _ (by simp[aS])) (hs _ (by simp[aS])),
  h.tabs.mod hm (fun b hb=>⟨hs _ (by unfold aS;simp[dG];exact .inr (.inr (.inr (.inr (.inr (.inr (.inr (.inr ⟨_,_,hb,.inl rfl⟩)))))))),hs _ (by unfold aS;simp[dG];exact .inr (.inr (.inr (.inr (.inr (.inr (.inr (.inr ⟨_,_,hb,.inr rfl⟩))))))))⟩),h.pow,h.many,h.eq,h.deep,h.nd⟩
end
def dw (db:Nat):Value:= .pointer (some ⟨db,0,none⟩)
def rG (n k:Nat):Nat→Nat
 |0=>0
 |j+1=>rG n k j+(n-pV n k j)
theorem BI (n k:Nat):∀j,rG n k j=n*j-min k (n*j)
 |0=>by simp[rG]
 |j+1=>by
  have h1:=BI n k j;unfold rG pV;rw[h1,Nat.mul_comm j n,Nat.mul_succ];generalize n*j=m;omega
theorem vX (db:Nat)(w:World)(h:w.cell? ⟨db,3,none⟩=some (.slice none 0 0)):
  Calls Tryz.prog 200 #[dw db] w fun e w'=>e= .returned (.bool false)∧w=w':=by
 unfold dw;go_in;go_wp2;go_ret;exact⟨rfl,rfl⟩
theorem uz (db fb fn bQ:Nat)(w:World)(h:w.cell? ⟨db,3,none⟩=some (.slice (some ⟨fb,0,none⟩) fn bQ)):
  Calls Tryz.prog 200 #[dw db] w fun e w'=>e= .returned (.bool true)∧w=w':=by
 unfold dw;go_in;go_wp2;go_ret;exact⟨rfl,rfl⟩
theorem MS (db rb cap ob og:Nat)(bl:List (Nat×Nat×Nat))(T:aD)(n depth k:Nat)(w:World)(h:uY w db rb cap ob og bl T n depth k)(hgl:T.gs.length≤64):
  Calls Tryz.prog 258 #[dw db] w fun e w'=>e= .returned (.int .i64 ((T.gs.length+(n*bl.length-k):Nat):Int))∧Below w.heap.size w w':=by
 have agM:=h.lt;have HB:=qd (h.blk);have HR:=qd (h.row);have HT:=qd (h.tab);have ah:=qd (Mod.refl [] w);obtain⟨many1,af3⟩:=h.many;have nM:=qd (show∀V,Below w.heap.size w V→∀(i:Nat) (b:Nat×Nat×Nat),bl[i]?=some b→fE V b.1 b.2.1 b.2.2 n (pV n k i)from fun V hV i b hb=>(h.qj i b hb).mod (Mod.of_below hV []) (by simp) (by simp) (by simp));have Zo:=h.pow.le;clear h;obtain⟨g0,hg0⟩:∃g0,g0=T.gs.length:=⟨_,rfl⟩;rw[←hg0]at hgl⊢;unfold dw;have bc:=HB.out.c6;have mQ:=qd (vX db w bc.2.2.2.1);unfold dw at mQ;have HG:=qd (sD ob og T w HT.out);rw[←hg0]at HG;unfold cK at HG;clear hg0;go_in;go_wp2_with fail;refine(mQ.out).mono ?_;rintro y w1 ⟨rfl,rfl⟩;clear mQ;go_wp2_with fail;refine(HG.out).mono ?_;rintro y w1 ⟨rfl,rfl⟩;clear HG;go_wp2;clear bc;have aeZ:=HR;clear HB HR HT ah;go_loopw [3,5,23] (fun v3 _ i wr=>∃j:Nat,j≤bl.length∧i= .int .i64 j∧v3= .int .i64 ((g0+rG n k j:Nat):Int)∧Below w.heap.size w wr) (fun _ _ i _=>bl.length-(intOf i).toNat)
 case atStart=>exact⟨0,by omega,rfl,by simp[rG],Below.refl _ _⟩
 case round=>
  obtain⟨j,hj,rfl,rfl,hm⟩:=hrel;by_cases hlt:j<bl.length
  ·have hlt':(j:Int)<(bl.length:Int):=by omega
   have hj0:(0:Int)≤(j:Int):=by omega
   obtain⟨b,hb⟩:∃b,bl[j]?=some b:=⟨_,List.getElem?_eq_getElem hlt⟩;have hbl:=nM.out wr hm j b hb;have hc:=(aeZ.out.mod (Mod.of_below hm []) (by simp)).at_ j b.1 (by rw[List.getElem?_map,hb];rfl);have hkl:pV n k j≤n:=Nat.min_le_left _ _
   have hsl:rG n k j≤128:=by rw[BI];have:n*j≤64*2:=Nat.mul_le_mul Zo (by omega);omega
   have HC:=qd (sH b.1 n (pV n k j) _ wr hkl Zo hbl.blk);unfold nS at HC;have Hm:=qd hm;clear hm hb hbl;go_wp2_with fail;refine(HC.out).mono ?_;rintro y w2 ⟨rfl,hw2⟩;have WO:=qd (show Below w.heap.size w w2 from by rw[←hw2];exact Hm.out.trans ((Below.refl _ _).drew.mono Hm.out.size));clear hw2;go_wp2;go_roundw
   case rel=>exact⟨j+1,by omega,by go_num,by first|go_num|(simp[rG];omega),WO.out⟩
   case measure=>simp[intOf];omega
  ·obtain rfl:j=bl.length:=by omega
   have hlt':¬(bl.length:Int)<(bl.length:Int):=by omega
   go_wp2;go_ret;exact⟨gu (by have:=BI n k bl.length;omega),hm⟩
theorem qG (db rb cap ob og fb bQ eb vb bT:Nat)(bE:List Nat)(bs:List (Nat×Nat))(T:aD)(Ts:List aD)(n depth next:Nat)(w:World)(h:oU w db rb cap ob og fb bQ eb vb bT bE bs T Ts n depth next)(hgl:T.gs.length≤64)(hnx:next≤T.gs.length):
  Calls Tryz.prog 258 #[dw db] w fun e w'=>e= .returned (.int .i64 ((T.gs.length-next:Nat):Int))∧w.drew=w':=by
 have bc3:=h.blk.cell 3;have bc4:=h.blk.cell 4;simp only[gl]at bc3 bc4;have mQ:=qd (uz db fb bs.length bQ w bc3);have HL:=qd (Ld eb ob og vb bT _ depth next T w h.ev h.tab hnx hgl);unfold dw at mQ⊢;clear h;go_in;go_wp2_with fail;refine(mQ.out).mono ?_;rintro y w1 ⟨rfl,rfl⟩;go_wp2_with fail;refine(HL.out).mono ?_;rintro y w1 ⟨rfl,rfl⟩;go_wp2;go_ret;exact⟨rfl,rfl⟩
end
end Go.Proofs.YtjfgpnapccdnlaaGreatDoor
