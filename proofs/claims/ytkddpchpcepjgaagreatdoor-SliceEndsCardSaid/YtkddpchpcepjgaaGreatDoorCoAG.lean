/- Package evac by its contracts. -/
import Derived.Test.YtkddpchpcepjgaaGreatDoorCoAE
namespace Go.Proofs.YtkddpchpcepjgaaGreatDoor
set_option maxRecDepth 100000
set_option maxHeartbeats 8000000
open Go.RowKit cu Go
theorem qs:type_of% @List.getElem?_of_mem:=@List.getElem?_of_mem
theorem Q1:type_of% @List.not_mem_nil:=@List.not_mem_nil
theorem XS:type_of% @or_false:=@or_false
section
variable {w : World} {cap depth eb next tb vb : Nat} {ts : List Nat}
def dJ (k depth hash:Nat):Nat:=if k=1 then 0 else vM hash depth
structure mW (w:World)(eb tb vb cap:Nat)(ts:List Nat)(depth next:Nat):Prop where
 blk:aj w eb 316 #[pQ tb,.slice (some ⟨vb,0,none⟩) ts.length cap,nI depth,nI next]
 row:fO w vb ts
theorem mW.mod {S:List Nat}{w':World}(h:mW w eb tb vb cap ts depth next)(hm:Mod S w w')(h1:eb∉S)(h2:vb∉S):mW w' eb tb vb cap ts depth next:=⟨h.blk.mod hm h1,h.row.mod hm h2⟩
instance {w w':World}{eb tb vb cap:Nat}{ts:List Nat}{depth next:Nat}:Md (mW w eb tb vb cap ts depth next) w w' (mW w' eb tb vb cap ts depth next) (λS=>eb∉S/\vb∉S):=⟨λh hm hs=>h.mod hm hs.1 hs.2⟩
theorem mW.lt (h:mW w eb tb vb cap ts depth next):eb<w.heap.size:=h.blk.lt
theorem mW.qH (h:mW w eb tb vb cap ts depth next):vb<w.heap.size:=h.row.lt
theorem SQ {a b:Nat}(h:b<=a):(a:Int)-(b:Int)=((a-b:Nat):Int):=by omega
theorem LV (eb tb gb vb cap:Nat)(ts:List Nat)(depth next:Nat)(T:aC)(w:World)(h:mW w eb tb vb cap ts depth next)(ht:TabAt w tb gb T)(hle:next<=T.gs.length)(h64:T.gs.length<=64):
  Calls Tryz.prog 251 #[pQ eb] w λe w'=>e= .returned (.int .i64 ((T.gs.length-next:Nat):Int))/\w.drew=w':=by
 obtain⟨uP,tc1,tc2⟩:=ht.cells;obtain⟨n,hn⟩:∃n,n=T.gs.length:=⟨_,rfl⟩;have HG:=qd (nN tb gb T w.drew (ht.below (Below.refl _ _).drew));rw[<-hn]at HG hle h64|-;unfold bT at HG;have HE:=qd (h);have ah:=qd (Mod.refl [] w);have qI:=qd h.blk;clear h ht;have ec:=qI.o.c4
 have hwr:IntKind.i64.wrap ((n:Int)-(next:Int))=((n-next:Nat):Int):=by rw[SQ hle];rw[ZZ];omega
 clear uP tc1 tc2 hn;go_in;go_upto_region 1 with fail;refine rT (λ(w':World)=>w'.cell? ⟨eb,0,none⟩=some (pQ tb)/\w'.cell? ⟨eb,3,none⟩=some (nI next)) [] ?_;have hHeld:=(⟨ec.1,ec.2.2.2⟩:_/\_);refine vW 0 rfl ?_;refine vW 1 rfl ?_;refine vW 2 rfl ?_;refine vT 3 rfl ?_;refine vW 5 rfl ?_;refine vW 6 rfl ?_;refine vW 7 rfl ?_;refine vT 8 rfl ?_;refine nT 4 rfl λK hK=> ?_;go_simp;refine(HG.o).mono ?_;rintro y w1 ⟨rfl,rfl⟩;go_wp2_with fail;have hHeld:=(⟨ec.1,ec.2.2.2⟩:_/\_);refine kO hK ?_;clear hK K;refine vW 9 rfl ?_;refine vW 10 rfl ?_;refine aV (by kernel_rfl) ?_ _;go_wp2;go_ret;exact⟨rfl,rfl⟩
theorem Gf (eb tb vb cap:Nat)(ts:List Nat)(depth next hash t:Nat)(hk:1<=ts.length/\ts.length<=2)(hd:depth<=15)(h64:hash<18446744073709551616)(ht:ts[dJ ts.length depth hash]?=some t)(w:World)(h:mW w eb tb vb cap ts depth next):
  Calls Tryz.prog 195 #[pQ eb,nU hash] w λe w'=>e= .returned (bT t)/\Below w.heap.size w w':=by
 obtain⟨ec0,Xg,ec2,ec3⟩:=h.blk.c4;have hr:=h.row.at_ _ _ ht;have HT:=qd ht;unfold bT;clear h ht;by_cases h1:ts.length=1
 ·have hs:dJ ts.length depth hash=0:=by unfold dJ;rw[if_pos h1]
  rw[hs]at hr;rw[h1]at Xg;go_in;go_wp2;go_ret;exact⟨rfl,Below.refl _ _⟩
 ·have h2:ts.length=2:=by omega
  have hs:dJ ts.length depth hash=vM hash depth:=by unfold dJ;rw[if_neg h1]
  rw[hs]at hr;rw[h2]at Xg;clear hs h1 HT;have hbl:vM hash depth<2:=kA _ (by omega);have HBt:=qd (Wv hash depth h64 hd w.drew);generalize vM hash depth=sd at*
  have hsd:(sd:Int)<2:=by omega
  have ahE:(0:Int)<=(sd:Int):=by omega
  have O1:=qd (vk (sd:Int) w.drew);go_in;go_upto_region 3 with fail;refine rT (λ(w':World)=>w'.cell? ⟨eb,1,none⟩=some (.slice (some ⟨vb,0,none⟩) 2 cap)/\w'.cell? ⟨eb,2,none⟩=some (nI depth)/\w'.cell? ⟨vb,sd,none⟩=some (pQ t)) [] ?_;have hHeld:=(⟨Xg,ec2,hr⟩:_/\_/\_);refine vW 0 rfl ?_;refine vW 1 rfl ?_;refine vW 2 rfl ?_;refine vT 3 rfl ?_;refine vW 4 rfl ?_;refine vW 5 rfl ?_;refine vW 6 rfl ?_;refine vW 7 rfl ?_;refine vT 8 rfl ?_;refine nT 9 rfl λK hK=> ?_;go_simp;refine(HBt.o).mono ?_;rintro y w1 ⟨rfl,rfl⟩;go_wp2_with fail;have hHeld:=(⟨Xg,ec2,hr⟩:_/\_/\_);refine kO hK ?_;clear hK K;refine vW 10 rfl ?_;refine vW 11 rfl ?_;refine nT 12 rfl λK hK=> ?_;go_simp;refine(O1.o).mono ?_;rintro y w1 ⟨rfl,rfl⟩;go_wp2_with fail;have hHeld:=(⟨Xg,ec2,hr⟩:_/\_/\_);refine kO hK ?_;clear hK K;refine vW 13 rfl ?_;refine vT 14 rfl ?_;refine vW 15 rfl ?_;refine aV (by kernel_rfl) ?_ _;go_wp2;go_ret;exact⟨rfl,(Below.refl _ _).drew⟩
end
section
variable {j k : Nat} {e : ay} {bs : List (Nat × Nat)} {S : List Nat} {w w' : World} {Ts : List aC}
def Eb (T:aC)(e:ay):aC:=match (aJ T.gs e.key e.hash).2.1 with
 |some x=>j4 T x.1 x.2 e
 |none=>T
structure O3 (T:aC)(e:ay):Prop where
 ok:ny T
 h64:e.hash<18446744073709551616
 none_:(aJ T.gs e.key e.hash).1=none
 free:∃i s,(aJ T.gs e.key e.hash).2.1=some (i,s)
 room:T.live+T.dh+1<=7*(T.gs.length:Int)
def noT:aC:=⟨[],0,0⟩
def vo (k d:Nat)(st:bS×List aC)(e:ay):bS×List aC:=
 (st.1.add cV (aJ (st.2.getD (dJ k d e.hash) noT).gs e.key e.hash).2.2,st.2.set (dJ k d e.hash) (Eb (st.2.getD (dJ k d e.hash) noT) e))
def fA (k d:Nat)(st:bS×List aC)(es:List ay):bS×List aC:=es.foldl (vo k d) st
def Fits (k d:Nat):List aC->List ay->Prop
 |_,[]=>True
 |Ts,e::es=>(∃T,Ts[dJ k d e.hash]?=some T/\O3 T e)/\Fits k d (Ts.set (dJ k d e.hash) (Eb (Ts.getD (dJ k d e.hash) noT) e)) es
theorem UR (k d:Nat)(st:bS×List aC){es:List ay}(h:es[j]?=some e):fA k d st (es.take (j+1))=vo k d (fA k d st (es.take j)) e:=by
 unfold fA;rw[r9 h,KB];rfl
theorem SS {d:Nat}:∀{es:List ay} {x:bS} {Ts:List aC} {j:Nat} {e:ay},Fits k d Ts es->es[j]?=some e->∃T,(fA k d (x,Ts) (es.take j)).2[dJ k d e.hash]?=some T/\O3 T e
 | [],_,_,_,_,_,h=>by simp at h
 |e0::es,x,Ts,0,e,hf,h=>by
  simp at h;subst h;exact hf.1
 |e0::es,x,Ts,j+1,e,hf,h=>by
  rw[Q2]at h;have:=SS (x:=x.add cV (aJ (Ts.getD (dJ k d e0.hash) noT).gs e0.key e0.hash).2.2) hf.2 h;exact this
structure iR (w:World)(bs:List (Nat×Nat))(Ts:List aC):Prop where
 len:bs.length=Ts.length
 at_:∀(j:Nat) (b:Nat×Nat) (T:aC),bs[j]?=some b->Ts[j]?=some T->TabAt w b.1 b.2 T
 ne:∀(i j:Nat) (b c:Nat×Nat),bs[i]?=some b->bs[j]?=some c->i≠j->b.1≠c.1/\b.1≠c.2/\b.2≠c.1/\b.2≠c.2
def gT (bs:List (Nat×Nat)):List Nat:=bs.flatMap λb=> [b.1,b.2]
theorem dV:k∈gT bs↔∃b∈bs,k=b.1\/k=b.2:=by simp[gT]
theorem iR.mod (h:iR w bs Ts)(hm:Mod S w w')(hs:∀b∈bs,b.1∉S/\b.2∉S):iR w' bs Ts:=
 ⟨h.len,λj b T hb hT=>(h.at_ j b T hb hT).mod hm (hs b (zE hb)).1 (hs b (zE hb)).2,h.ne⟩
theorem iR.ak (h:iR w bs Ts){b:Nat×Nat}{T':aC}(hb:bs[j]?=some b)(hT:TabAt w' b.1 b.2 T')(hm:Mod S w w')(hs:∀k∈S,k=b.1\/k=b.2\/∀c∈bs,k≠c.1/\k≠c.2):iR w' bs (Ts.set j T'):=by
 refine⟨by rw[qq];exact h.len,λi c T hc kR=> ?_,h.ne⟩;rw[qr]at kR;by_cases hij:j=i
 ·subst hij;rw[hb]at hc;cases hc;obtain⟨hlt,_⟩:=zz.1 hb;rw[if_pos rfl,if_pos (by rw[<-h.len];exact hlt)]at kR;cases kR;exact hT
 ·rw[if_neg hij]at kR;have hne:=h.ne j i b c hb hc hij;have hcm:=zE hc;refine(h.at_ i c T hc kR).mod hm (λhk=> ?_) (λhk=> ?_)
  ·rcases hs _ hk with e|e|e
   ·exact hne.1 e.symm
   ·exact hne.2.2.1 e.symm
   ·exact(e c hcm).1 rfl
  ·rcases hs _ hk with e|e|e
   ·exact hne.2.1 e.symm
   ·exact hne.2.2.2 e.symm
   ·exact(e c hcm).2 rfl
end
theorem UU {W0:World}{E:Nat->Addr}(tb gb:Nat)(T:aC)(P:MP)(x:bS)(c:bE)(g:Nat)(hg:g<T.gs.length)(hok:ny T)(w:World)(h:TabAt w tb gb T)(hM:aN w P x)(hE:Env W0 E w)(hmt:P.mb≠tb)(iC:P.mb≠gb)(hb0:W0.heap.size<=P.mb)(hb1:W0.heap.size<=tb)(hb2:W0.heap.size<=gb):
  Calls Tryz.prog 282 #[bT tb,aI (some ⟨P.mb,P.mo,none⟩) c,nI g] w λe w'=>∃A cc,e= .returned (.tuple #[.slice A (bX (T.gs.getD g [])).length cc,.nilIface])/\
   w'.ownsRow w.heap.size 67 3 (.slice A (bX (T.gs.getD g [])).length cc) (bX (T.gs.getD g [])).length ((bX (T.gs.getD g [])).flatMap aU)/\TabAt w' tb gb (takeN T g 8)/\aN w' P (x.add c 1)/\Mod [P.mb,tb,gb] w w':=by
 have hB:=(Below.refl w.heap.size w).alloc (zb _) (.cells #[.pointer (some ⟨P.mb,P.mo,none⟩),.int .i64 c.p,.int .i64 c.v,.int .i64 c.u] 153);have hL:=aj.new w 153 #[.pointer (some ⟨P.mb,P.mo,none⟩),.int .i64 c.p,.int .i64 c.v,.int .i64 c.u];obtain⟨W,hW⟩:∃W,W=w.alloc (.cells #[.pointer (some ⟨P.mb,P.mo,none⟩),.int .i64 c.p,.int .i64 c.v,.int .i64 c.u] 153):=⟨_,rfl⟩;rw[<-hW]at hB hL;obtain⟨LA,LB,LC,LD⟩:=hL.c4;have hml:=hM.lt;have htl:=h.aS;have hgl:=h.aT;have hB0:=hE.size;have HW:=qd hW
 have hg0:(g:Int)<(T.gs.length:Int):=by omega
 have uO:=qd (Jp tb gb T P.mb P.mt P.pre P.post P.mo x.all x.last P.m c g hg W (h.below hB) (hM.below hB) hmt iC);have LW:=qd hok;unfold bT aI bG at uO;unfold bT aI;have HT:=qd (h.below hB);have av:=qd (hE.next hB);have ah:=qd (Mod.of_below hB [P.mb,tb,gb]);clear hW hB h hM hL hE hok;generalize hGn:T.gs.getD g []=G;go_in;go_upto_region 1 with fail;rw[<-HW.o];go_wp2_with fail;refine(uO.o).mono ?_;rintro x w1 ⟨rfl,hM1,hm⟩;clear LA LB LC LD;replace HT:=qM hm HT;replace av:=qM hm av;replace ah:=qU ah hm;clear hm;have HM:=qd (show aN w1 P (x.add c 1)from hM1);clear hM1;go_upto_region 4 with fail;have q1:=qJ HT.o.aS (qJ HT.o.aT (qJ HM.o.lt ah.o.size));refine dL 211 #[.pointer (some ⟨gb,g*25,none⟩)] ?_;rintro w2 ⟨hnew,hb⟩;obtain⟨vb,hvb⟩:∃vb,vb=w1.heap.size:=⟨_,rfl⟩;rw[<-hvb]at hnew|-
 replace hvb:w1.heap.size<=vb:=by omega
 replace HT:=qB hb HT;replace av:=qB hb av;replace HM:=qB hb HM;replace ah:=qT ah hb;have HV:=qd (hnew);clear hnew hb;have z5:=ah.o.size;have Bl:=HV.o.cell 0;simp only[zr,zc]at Bl;have bI:=qd (Ga gb 215 _ _ (g*25) _ w2 (HT.o.group g hg) av.o.tz);rw[hGn]at bI;unfold bG at bI;go_wp2_with fail;refine(bI.o).mono ?_;rintro x w3 ⟨A,cc,rfl,hO,hb⟩;clear Bl;replace HT:=qB hb HT;replace av:=qB hb av;replace HM:=qB hb HM;replace HV:=qB hb HV;replace ah:=qT ah hb;clear hb;have hwl:=ah.o.size;have HO:=qd (hO);clear hO;have q6:=qJ HT.o.aS (qJ HT.o.aT (qJ HM.o.lt HV.o.lt));clear HW;go_wp2;go_loopw [11,12,13,26] (λ_ _ _ i wr=>∃k:Nat,k<=8/\i= .int .i64 k/\TabAt wr tb gb (takeN T g k)/\aN wr P (x.add c 1)/\Env W0 E wr/\wr.ownsRow w2.heap.size 67 3 (.slice A (bX G).length cc) (bX G).length ((bX G).flatMap aU)/\aj wr vb 211 #[.pointer (some ⟨gb,g*25,none⟩)]/\Mod [P.mb,tb,gb] w wr) (λ_ _ _ i _=>8-(intOf i).toNat)
 case atStart=>exact⟨0,by omega,rfl,HT.o,HM.o,av.o,HO.o,HV.o,ah.o⟩
 case round=>
  clear HT HM av HO HV ah;obtain⟨k,hk,rfl,hT,hM,hE,hO,hV,hm⟩:=hrel;by_cases hlt:k<8
  ·have hlt':(k:Int)<8:=by omega
   have HT:=qd (hT);have HM:=qd (hM);have av:=qd (hE);have HO:=qd (hO);have HV:=qd (hV);have ah:=qd (hm);clear hT hM hE hO hV hm
   have hgk:g<(takeN T g k).gs.length:=by rw[tH];exact hg
   have HG:=qd (HT.o.group g hgk);have HOe:=qd (LW.o.tkN g k);have Bl:=HV.o.cell 0;simp only[zr,zc]at Bl
   cases hsl:aH (takeN T g k).gs g k with
   |full e=>
    have jH:=qd (F8 gb 215 _ _ (g*25) _ wr HG.o k hlt e (by unfold aH at hsl;exact hsl));unfold bG aP at jH;clear HG;go_wp2_with fail;refine(jH.o).mono ?_;rintro x w4 ⟨rfl,hb⟩;clear Bl;replace HT:=qB hb HT;replace HM:=qB hb HM;replace av:=qB hb av;replace HO:=qB hb HO;replace HV:=qB hb HV;replace ah:=qT ah hb;clear hb jH;go_upto_region 10 with fail;have q1:=qJ HT.o.aS (qJ HT.o.aT (qJ HM.o.lt (qJ HV.o.lt ah.o.size)));refine dL 67 #[nU e.key,nU e.val,nU e.hash] ?_;rintro w5 ⟨hnew,hb⟩;replace HT:=qB hb HT;replace HM:=qB hb HM;replace av:=qB hb av;replace HO:=qB hb HO;replace HV:=qB hb HV;replace ah:=qT ah hb;have HD:=qd (hnew);clear hnew hb;have Bl:=HV.o.cell 0;simp only[zr,zc]at Bl;have yO:=qd (Gb tb gb (takeN T g k) g k hgk hlt e hsl HOe.o.small w5 HT.o);unfold bT Jk at yO;clear HT HD;go_wp2_with fail;refine(yO.o).mono ?_;rintro x w6 ⟨rfl,hT6,hm⟩;clear Bl;replace HM:=qM hm HM;replace av:=qM hm av;replace HO:=qM hm HO;replace HV:=qM hm HV;replace ah:=qU ah hm;clear hm;have HT:=qd (hT6);clear hT6;have lJ:=qd (show takeN T g (k+1)=jh (takeN T g k) g k from by show gY _ _ _=_;unfold gY;rw[hsl];rfl);clear hsl;go_wp2;go_roundw
    case rel=>exact⟨k+1,by omega,by go_num,by rw[lJ.o];exact HT.o,HM.o,av.o,HO.o,HV.o,ah.o⟩
    case measure=>simp[intOf];omega
   |empty=>
    have jH:=qd (Lu gb 215 _ _ (g*25) _ wr HG.o k hlt (by unfold aH at hsl;rw[hsl];rfl) E (av.o.errs.at_ 5 (by omega) (by omega)));unfold bG aP at jH;clear HG;go_wp2_with fail;refine(jH.o).mono ?_;rintro x w4 ⟨rfl,hb⟩;clear Bl;replace HT:=qB hb HT;replace HM:=qB hb HM;replace av:=qB hb av;replace HO:=qB hb HO;replace HV:=qB hb HV;replace ah:=qT ah hb;clear hb jH;have lJ:=qd (show takeN T g (k+1)=takeN T g k from by show gY _ _ _=_;unfold gY;rw[hsl];rfl);clear hsl;go_upto_region 11 with fail;have q1:=qJ HT.o.aS (qJ HT.o.aT (qJ HM.o.lt (qJ HV.o.lt ah.o.size)));refine dL 67 #[.int .u64 0,.int .u64 0,.int .u64 0] ?_;rintro w5 ⟨hnew,hb⟩;replace HT:=qB hb HT;replace HM:=qB hb HM;replace av:=qB hb av;replace HO:=qB hb HO;replace HV:=qB hb HV;replace ah:=qT ah hb;have HD:=qd (hnew);clear hnew hb;go_wp2;go_roundw
    case rel=>exact⟨k+1,by omega,by go_num,by rw[lJ.o];exact HT.o,HM.o,av.o,HO.o,HV.o,ah.o⟩
    case measure=>simp[intOf];omega
   |qP=>
    have jH:=qd (Lu gb 215 _ _ (g*25) _ wr HG.o k hlt (by unfold aH at hsl;rw[hsl];rfl) E (av.o.errs.at_ 5 (by omega) (by omega)));unfold bG aP at jH;clear HG;go_wp2_with fail;refine(jH.o).mono ?_;rintro x w4 ⟨rfl,hb⟩;clear Bl;replace HT:=qB hb HT;replace HM:=qB hb HM;replace av:=qB hb av;replace HO:=qB hb HO;replace HV:=qB hb HV;replace ah:=qT ah hb;clear hb jH;have lJ:=qd (show takeN T g (k+1)=takeN T g k from by show gY _ _ _=_;unfold gY;rw[hsl];rfl);clear hsl;go_upto_region 11 with fail;have q1:=qJ HT.o.aS (qJ HT.o.aT (qJ HM.o.lt (qJ HV.o.lt ah.o.size)));refine dL 67 #[.int .u64 0,.int .u64 0,.int .u64 0] ?_;rintro w5 ⟨hnew,hb⟩;replace HT:=qB hb HT;replace HM:=qB hb HM;replace av:=qB hb av;replace HO:=qB hb HO;replace HV:=qB hb HV;replace ah:=qT ah hb;have HD:=qd (hnew);clear hnew hb;go_wp2;go_roundw
    case rel=>exact⟨k+1,by omega,by go_num,by rw[lJ.o];exact HT.o,HM.o,av.o,HO.o,HV.o,ah.o⟩
    case measure=>simp[intOf];omega
  ·obtain rfl:k=8:=by omega
   have HF:=qd (And.intro hT (And.intro hM (And.intro (rG hO (show w.heap.size<=w2.heap.size by omega)) hm)));clear hT hM hE hO hV hm
   have hlt':¬((8:Nat):Int)<8:=by omega
   go_wp2;refine bodyPost_ret (v:= .tuple #[.slice A (bX G).length cc,.nilIface]) (by simp[results,Tryz.results282,go_sem]) rfl ⟨A,cc,rfl,HF.o.2.2.1,HF.o.1,HF.o.2.1,HF.o.2.2.2⟩
theorem Xh {W0:World}{E:Nat->Addr}(eb tb gb vb cap:Nat)(depth next:Nat)(bs:List (Nat×Nat))(T:aC)(Ts:List aC)(P:MP)(x:bS)(hk:1<=bs.length/\bs.length<=2)(hd:depth<=15)(w:World)
  (h:mW w eb tb vb cap (bs.map Prod.fst) depth next) (ht:TabAt w tb gb T) (hok:ny T) (hn:next<T.gs.length) (hts:iR w bs Ts) (hfit:Fits bs.length depth Ts (bX (T.gs.getD next [])))
  (hM:aN w P x) (hE:Env W0 E w) (hbd:∀b∈bs,b.1∉[P.mb,eb,vb,tb,gb]/\b.2∉[P.mb,eb,vb,tb,gb]) (hmd:P.mb∉[eb,vb,tb,gb]) (hed:eb∉[vb,tb,gb]) (hvd:vb∉[tb,gb])
  (hb0:W0.heap.size<=P.mb) (hb1:W0.heap.size<=tb) (hb2:W0.heap.size<=gb) (_:W0.heap.size<=eb) (hb4:∀b∈bs,W0.heap.size<=b.1/\W0.heap.size<=b.2):
  Calls Tryz.prog 278 #[pQ eb,.pointer (some ⟨P.mb,P.mo,none⟩)] w λe w'=>e= .returned (.bool true)/\mW w' eb tb vb cap (bs.map Prod.fst) depth (next+1)/\TabAt w' tb gb (takeN T next 8)/\
   iR w' bs (fA bs.length depth ((x.add (cU 1) 1).add cV 1,Ts) (bX (T.gs.getD next []))).2/\aN w' P (fA bs.length depth ((x.add (cU 1) 1).add cV 1,Ts) (bX (T.gs.getD next []))).1/\Mod (P.mb::eb::tb::gb::gT bs) w w':=by
 simp only[zt,Q1,XS,not_or]at hmd hed hvd hbd;have hml:=hM.lt;have hB0:=hE.size;have jQ:=qd (LV eb tb gb vb cap _ depth next T w h ht (by omega) hok.pow.le);have hle:=hok.pow.le
 obtain⟨dn,hdn⟩:∃dn,dn=T.gs.length-next:=⟨_,rfl⟩
 rw[<-hdn]at jQ
 have hd0:¬(dn:Int)=0:=by omega
 have hd1:¬dn=0:=by omega
 obtain⟨bn,hbn⟩:∃bn,bn=(bs.map Prod.fst).length:=⟨_,rfl⟩;have hbl:(bs.map Prod.fst).length=bs.length:=qS ..;have LW:=qd hok
 have hbs:∀b∈bs,b.1<w.heap.size/\b.2<w.heap.size:=λb hb=>by
  obtain⟨j,hj⟩:=qs hb;obtain⟨hlt,_⟩:=zz.1 hj
  have hlt2:j<Ts.length:=by rw[<-hts.len];exact hlt
  have:=hts.at_ j b Ts[j] hj (zg hlt2);exact⟨this.aS,this.aT⟩
 obtain⟨es,hes⟩:∃es,es=bX (T.gs.getD next []):=⟨_,rfl⟩;rw[<-hes]at hfit|-;have HEs:=qd hes;clear hes;have oW:=qd hbd;have HV:=qd (h);have HT:=qd (ht);have dR:=qd (hts);have av:=qd (hE);have HM:=qd (hM);have ah:=qd (Mod.refl (P.mb::eb::tb::gb::gT bs) w);have HF:=qd hfit;clear h ht hts hE hM hok hdn hfit;have q1:=qJ HV.o.lt (qJ HV.o.qH (qJ HT.o.aS (qJ HT.o.aT HM.o.lt)));go_in;go_upto_region 1 with fail;go_wp2_with fail;refine(jQ.o).mono ?_;rintro y w1 ⟨rfl,hw1⟩;have hm:Mod [] w w1:=hw1▸Mod.drewN [] w 1;clear hw1 jQ;replace HV:=qM hm HV;replace HT:=qM hm HT;replace dR:=qd (dR.o.mod hm (λb hb=>by have hh:=hbd b hb;simp<;>omega));replace av:=qM hm av;replace HM:=qM hm HM;have z6:=(hm).size;replace ah:=qU ah hm;clear hm;have HU:=qd (tC P.mb P.mt P.pre P.post P.mo _ _ P.m 1 (by omega) w1 HM.o);clear HM;go_wp2_with fail;refine(HU.o).mono ?_;rintro x w2 ⟨rfl,hM2,hm⟩;replace HV:=qM hm HV;replace HT:=qM hm HT;replace dR:=qd (dR.o.mod hm (λb hb=>by have hh:=hbd b hb;simp<;>omega));replace av:=qM hm av;have z7:=(hm).size;replace ah:=qU ah hm;clear hm;have HM:=qd (show aN w2 P (x.add (cU 1) 1)from hM2);clear hM2 HU;go_upto_region 4 with fail;have hEb:=HV.o.blk;rw[<-hbn]at hEb;have qI:=qd (hEb);clear hEb;have ec:=qI.o.c4;refine rT (λ(w':World)=>w'.cell? ⟨eb,0,none⟩=some (pQ tb)/\w'.cell? ⟨eb,3,none⟩=some (nI next)) [] ?_;have hHeld:=(⟨ec.1,ec.2.2.2⟩:_/\_);refine vW 0 rfl ?_;refine vW 1 rfl ?_;refine vW 2 rfl ?_;refine vT 3 rfl ?_;refine vW 4 rfl ?_
 refine vW 6 rfl ?_;refine vW 7 rfl ?_;refine vW 8 rfl ?_;refine vT 9 rfl ?_;refine vW 15 rfl ?_;refine nT 5 rfl λK hK=> ?_;go_simp;refine(wZ (some ⟨P.mb,P.mo,none⟩) _).mono ?_;rintro y w3 ⟨rfl,hb⟩;replace hb:Below w2.heap.size w2 w3:=bN hb (Below.refl _ _).drew;unfold aI;clear ec;replace HV:=qB hb HV;replace HT:=qB hb HT;replace dR:=qd (dR.o.mod (Mod.of_below hb []) (by simp));replace av:=qB hb av;replace HM:=qB hb HM;replace qI:=qB hb qI;have z8:=(hb).size;replace ah:=qT ah hb;clear hb;have ec:=qI.o.c4;go_wp2_with fail;have hHeld:=(⟨ec.1,ec.2.2.2⟩:_/\_);refine kO hK ?_;clear hK K;refine nT 10 rfl λK hK=> ?_;go_simp;have wF:=qd (UU tb gb T P (x.add (cU 1) 1) cV next hn LW.o w3 HT.o HM.o av.o (by omega) (by omega) hb0 hb1 hb2);unfold bT aI cV at wF;refine(wF.o).mono ?_;rintro y w4 ⟨A,cc,rfl,yM,SK,Jo,hm⟩;clear wF HT HM ec;replace HV:=qM hm HV;replace dR:=qd (dR.o.mod hm (λb hb=>by have hh:=hbd b hb;simp<;>omega));replace av:=qM hm av;replace qI:=qM hm qI;have z9:=(hm).size;replace ah:=qU ah hm;have HT:=qd (SK);have HM:=qd (Jo);have iB:=qd (yM);clear SK Jo yM hm;have ec:=qI.o.c4;rw[<-HEs.o]at iB|-;go_wp2_with fail;have hHeld:=(⟨ec.1,ec.2.2.2⟩:_/\_);refine kO hK ?_;clear hK K;refine vW 11 rfl ?_;refine vW 12 rfl ?_;refine nT 13 rfl λK hK=> ?_;go_simp;refine(Xd A es.length cc w4).mono ?_;rintro y w5 ⟨rfl,rfl⟩;go_wp2_with fail;have hHeld:=(⟨ec.1,ec.2.2.2⟩:_/\_);refine kO hK ?_;clear hK K;refine vW 14 rfl ?_;refine aV (by kernel_rfl) ?_ _
 have af5:es.length<=8:=by have h1:=zC (T.gs.getD next []);have h2:=LW.o.wide.at_ hn;rw[HEs.o];omega
 clear hd0 hd1;go_wp2;clear ec qI;obtain⟨st0,O4⟩:∃st0:bS×List aC,st0=((x.add (cU 1) 1).add cV 1,Ts):=⟨_,rfl⟩;go_loopw [6,7,8,29] (λ_ _ _ i wr=>∃j:Nat,j<=es.length/\i= .int .i64 j/\mW wr eb tb vb cap (bs.map Prod.fst) depth next/\TabAt wr tb gb (takeN T next 8)/\iR wr bs (fA bs.length depth st0 (es.take j)).2/\aN wr P (fA bs.length depth st0 (es.take j)).1/\Env W0 E wr/\wr.ownsRow w3.heap.size 67 3 (.slice A es.length cc) es.length (es.flatMap aU)/\Mod (P.mb::eb::tb::gb::gT bs) w wr) (λ_ _ _ i _=>es.length-(intOf i).toNat)
 case atStart=>exact⟨0,by omega,rfl,HV.o,HT.o,by rw[O4];exact dR.o,by rw[O4];exact HM.o,av.o,iB.o,ah.o⟩
 case round=>
  clear HV HT dR HM av iB ah;obtain⟨j,hj,rfl,hV,hT,hTs,hM,hE,yM,hm⟩:=hrel;by_cases hlt:j<es.length
  ·have hlt':(j:Int)<(es.length:Int):=by omega
   have hj0:(0:Int)<=(j:Int):=by omega
   obtain⟨e,he⟩:∃e,es[j]?=some e:=⟨_,zg hlt⟩;obtain⟨g,rfl,hgb,k0,k1,k2,hjn⟩:=LQ yM he;have eO:=qd (UR bs.length depth st0 he);obtain⟨T1,hT1,hcp⟩:=SS (x:=(x.add (cU 1) 1).add cV 1) HF.o he;rw[<-O4]at hT1;clear he hjn;obtain⟨st,hst⟩:∃st,st=fA bs.length depth st0 (es.take j):=⟨_,rfl⟩;rw[<-hst]at hTs hM eO hT1;clear hst;obtain⟨sd,hsd⟩:∃sd,sd=dJ bs.length depth e.hash:=⟨_,rfl⟩;have HSd:=qd hsd;rw[<-hsd]at hT1;clear hsd;obtain⟨b,hb⟩:∃b,bs[sd]?=some b:=⟨_,zg (by rw[hTs.len];exact(zz.1 hT1).1)⟩;have pX:=zE hb;have hbb:=hbd b pX;have ahF:=hbs b pX;have ahG:=hb4 b pX;have Gg:=qd hb;have HT1:=qd hT1;have lK:=qd hcp;clear hb hT1 hcp;have HV:=qd (hV);have HT:=qd (hT);have dR:=qd (hTs);have HM:=qd (hM);have av:=qd (hE);have iB:=qd (yM);have ah:=qd (hm);clear hV hT hTs hM hE yM hm;have SV:=qd (λ(V:World) (hV:mW V eb tb vb cap (bs.map Prod.fst) depth next)=>Gf eb tb vb cap (bs.map Prod.fst) depth next e.hash b.1 (by rw[qS];exact hk) hd lK.o.h64 (by rw[qS,<-HSd.o,Q3,Gg.o];rfl) V hV);unfold bT at SV;go_upto_region 7 with fail;have q1:=qJ HV.o.lt (qJ HV.o.qH (qJ HT.o.aS (qJ HT.o.aT (qJ HM.o.lt ah.o.size))));refine dL 67 #[nU e.key,nU e.val,nU e.hash] ?_;rintro w6 ⟨hnew,hb⟩;obtain⟨xb,hxb⟩:∃xb,xb=wr.heap.size:=⟨_,rfl⟩;rw[<-hxb]at hnew|-
   replace hxb:wr.heap.size<=xb:=by omega
   clear k0 k1 k2;replace HV:=qB hb HV;replace HT:=qB hb HT;replace dR:=qd (dR.o.mod (Mod.of_below hb []) (by simp));replace HM:=qB hb HM;replace av:=qB hb av;replace iB:=qB hb iB;have z7:=(hb).size;replace ah:=qT ah hb;have HX:=qd (hnew);clear hnew hb;have xc:=HX.o.c3;obtain⟨i,s,hfr⟩:=lK.o.free;have OV:=qd hfr;clear hfr;refine rT (λ(w':World)=>w'.cell? ⟨xb,0,none⟩=some (nU e.key)/\w'.cell? ⟨xb,1,none⟩=some (nU e.val)/\w'.cell? ⟨xb,2,none⟩=some (nU e.hash)) [] ?_;have hHeld:=(⟨xc.1,xc.2.1,xc.2.2⟩:_/\_/\_);refine vW 0 rfl ?_;refine vW 1 rfl ?_;refine vT 2 rfl ?_;refine vW 4 rfl ?_;refine vT 6 rfl ?_;refine nT 3 rfl λK hK=> ?_;go_simp;refine(SV.o _ (HV.o.mod (Mod.drewN [] w6 1) (by simp) (by simp))).mono ?_;rintro y w7 ⟨rfl,hb⟩;replace hb:Below w6.heap.size w6 w7:=bN hb (Below.refl _ _).drew;clear xc;replace HV:=qB hb HV;replace HT:=qB hb HT;replace dR:=qd (dR.o.mod (Mod.of_below hb []) (by simp));replace HM:=qB hb HM;replace av:=qB hb av;replace iB:=qB hb iB;replace HX:=qB hb HX;have z8:=(hb).size;replace ah:=qT ah hb;clear hb;have xc:=HX.o.c3;go_wp2_with fail;have hHeld:=(⟨xc.1,xc.2.1,xc.2.2⟩:_/\_/\_);refine kO hK ?_;clear hK K;refine nT 5 rfl λK hK=> ?_;go_simp;refine(wZ (some ⟨P.mb,P.mo,none⟩) _).mono ?_;rintro y w8 ⟨rfl,hb⟩;unfold aI;clear xc;replace HV:=qB hb HV;replace HT:=qB hb HT;replace dR:=qd (dR.o.mod (Mod.of_below hb []) (by simp));replace HM:=qB hb HM;replace av:=qB hb av;replace iB:=qB hb iB;replace HX:=qB hb HX;have z9:=(hb).size
   replace ah:=qT ah hb;clear hb;have xc:=HX.o.c3;go_wp2_with fail;have hHeld:=(⟨xc.1,xc.2.1,xc.2.2⟩:_/\_/\_);refine kO hK ?_;clear hK K;refine nT 7 rfl λK hK=> ?_;go_simp;have Ec:=qd (Nr b.1 b.2 T1 P.mb P.mt P.pre P.post P.mo st.1.all st.1.last P.m cV e w8 (dR.o.at_ sd b T1 Gg.o HT1.o) lK.o.ok.pow lK.o.h64 HM.o (by omega) (by omega) av.o.tz (by have:=av.o.OX;omega) lK.o.none_ i s OV.o lK.o.ok.small lK.o.room);unfold bT aI aP cV at Ec;refine(Ec.o).mono ?_;rintro y w9 ⟨rfl,hT9,hM9,hm⟩;clear Ec HM;have ad4:=dR.o.ak Gg.o hT9 hm (by intro q hq;simp at hq;rcases hq with rfl|rfl|rfl;exact .inr (.inr (λc hc=>by have:=hbd c hc;omega));exact .inl rfl;exact .inr (.inl rfl));clear dR hT9;have hm0:Mod (P.mb::eb::tb::gb::gT bs) w8 w9:=hm.more (by intro q hq;simp at hq;rcases hq with rfl|rfl|rfl;simp;simp[dV];exact .inr (.inr (.inr (.inr ⟨_,_,pX,.inl rfl⟩)));simp[dV];exact .inr (.inr (.inr (.inr ⟨_,_,pX,.inr rfl⟩))));have Xi:=ah;clear ah;have ah:=qd (Mod.refl [P.mb,b.1,b.2] w8);clear xc;replace HV:=qM hm HV;replace HT:=qM hm HT;replace av:=qM hm av;replace iB:=qM hm iB;replace HX:=qM hm HX;have z10:=(hm).size;replace ah:=qU ah hm;clear ah;have ah:=qd (Xi.o.then hm0);clear Xi hm0 hm;have dR:=qd (ad4);have HM:=qd (show aN w9 P (st.1.add cV (aJ T1.gs e.key e.hash).2.2)from hM9);clear ad4 hM9;have xc:=HX.o.c3;go_wp2_with fail;have hHeld:=(⟨xc.1,xc.2.1,xc.2.2⟩:_/\_/\_);refine kO hK ?_;clear hK K;refine vW 8 rfl ?_;refine vW 9 rfl ?_;refine vW 10 rfl ?_
   refine vW 11 rfl ?_;refine vW 12 rfl ?_;refine aV (by kernel_rfl) ?_ _
   have hgd:st.2.getD sd noT=T1:=by rw[zv,HT1.o];rfl
   have lJ:=qd (show fA bs.length depth st0 (es.take (j+1))=(st.1.add cV (aJ T1.gs e.key e.hash).2.2,st.2.set sd (j4 T1 i s e))from by rw[eO.o];unfold vo;rw[<-HSd.o,hgd];unfold Eb;rw[OV.o]);clear hgd;have O5:=qd (Ea w9);go_wp2_with fail;refine(O5.o).mono ?_;rintro y yP ⟨rfl,rfl⟩;clear xc;go_wp2;go_roundw
   case rel=>exact⟨j+1,by omega,by go_num,HV.o,HT.o,by rw[lJ.o];exact dR.o,by rw[lJ.o];exact HM.o,av.o,iB.o,ah.o⟩
   case measure=>simp[intOf];omega
  ·obtain rfl:j=es.length:=by omega
   have hlt':¬(es.length:Int)<(es.length:Int):=by omega
   rw[yr]at hTs hM;have qI:=qd (hV.blk);have HW:=qd (hV.row);have HT:=qd (hT);have dR:=qd (hTs);have HM:=qd (hM);have ah:=qd (hm);clear hV hT hTs hM hE yM hm;have q1:=qJ qI.o.lt (qJ HW.o.lt (qJ HT.o.aS (qJ HT.o.aT HM.o.lt)));have ec:=qI.o.c4;have ef:=qI.o.f4;go_upto_region 11 with fail;have q6:=qJ qI.o.lt (qJ HW.o.lt (qJ HT.o.aS (qJ HT.o.aT HM.o.lt)));refine I5 qI.o ?_;rintro w11 ⟨hnew,hm⟩;simp only[pt]at hnew;clear ec ef;replace HW:=qM hm HW;replace HT:=qM hm HT;replace dR:=qd (dR.o.mod hm (λb hb=>by have hh:=hbd b hb;simp<;>omega));replace HM:=qM hm HM;have z11:=(hm).size;replace ah:=qU ah hm;replace qI:=qd hnew;clear hnew hm;go_wp2;go_ret;exact⟨rfl,⟨qI.o,HW.o⟩,HT.o,by rw[<-O4];exact dR.o,by rw[<-O4];exact HM.o,ah.o⟩
