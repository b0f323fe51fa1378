/- SliceEnds: what keys have behind all operations is what they have behind those of them alone, and behind the puts that count. -/
import Derived.Test.YtkddpchpcepjgaaGreatDoorTwC
import Derived.Test.YtkddpchpcepjgaaGreatDoorRows
import Derived.ProofKit
import Derived.LaidMore
import Derived.Stop.LaidErr
import Derived.Lib.LaidTab
import Derived.HandedShaped
import Derived.Handed
import Derived.Deep.Strs
import Derived.OpenShut
import Derived.Carry
namespace Go.Proofs.YtkddpchpcepjgaaGreatDoor
set_option maxRecDepth 100000
set_option maxHeartbeats 16000000
open Go.RowKit cu uq J8 Go.ChangeShapes Go.WideShapes Go.ChangeAt Go.Deep
theorem k6:type_of% @DataW.trod_int:=@DataW.trod_int
section
variable {i k m : Int} {l : List aB} {E : Nat -> Addr} {w : World} {P : PL} {f : Nat × Nat -> Bool} {j : Nat} {p : Nat × Nat}
theorem Sj (h:fM k m i l=0):kC l=0/\jB k m i=true:=by
 unfold fM at h;by_cases hm:kC l=0
 ·rw[if_pos hm]at h;by_cases hc:jB k m i=true
  ·exact⟨hm,hc⟩
  ·rw[if_neg hc]at h;cases h
 ·rw[if_neg hm]at h;exact absurd h hm
theorem Nl {l':List aB}(hs:l'.Sublist l)(h:fM k m i l=0):fM k m i l'=0:=by
 obtain⟨a,b⟩:=Sj h;unfold fM;rw[if_pos (abS hs a),if_pos b]
theorem IJ {w':World}{y:Ending}(h:V8 E k m i l w y w')(hb:fM k m i l=0):∃(A:Option Addr) (c:Nat) (P:PL),y= .returned (.tuple #[.slice A P.length c,.nilIface])/\w'.ownsRow w.heap.size 39 2 (.slice A P.length c) P.length (P.flatMap dQ)/\gN P/\(∀x,jo P x=(eG m.toNat i.toNat ko l).R x)/\Below w.heap.size w w':=by
 rcases h.1 with⟨h1,_⟩|⟨_,v,P,rfl,ho,ha,hg⟩
 ·exact absurd hb h1
 ·obtain⟨A,c,rfl⟩:=bq ho;exact⟨A,c,P,rfl,ho,ha,hg,h.2⟩
theorem Ud (h:∀o∈l,pz o):∀o∈l,0<=o.key:=λo ho=>by
 obtain⟨_,_,q,_⟩:=h o ho;omega
theorem afq (hj:P[j]?=some p)(hp:f p=true):(P.filter f)[((P.take j).filter f).length]?=some p:=by
 have h1:P=P.take j++p::P.drop (j+1):=by
  have h2:=(zz.1 hj);obtain⟨h3,h4⟩:=h2;rw[<-h4,List.getElem_cons_drop,JP]
 conv=>lhs;rw[h1]
 rw[List.take_append_of_le_length (by rw[qn];have:=(zz.1 hj).1;omega),List.take_take,Nat.min_self,kB,Z1 (zb _),ve,xf,if_pos hp];rfl
theorem abZ (hj:P[j]?=some p):((P.take (j+1)).filter f).length=((P.take j).filter f).length+(if f p=true then 1 else 0):=by
 rw[J0,hj,kB,ZD];simp[xf]
 split<;>rfl
theorem afr (f:Nat×Nat->Bool)(j:Nat):((P.take j).filter f).length<=P.length:=qf (List.length_filter_le _ _) (by rw[qn];omega)
theorem Zl {M I:Nat}(hk:∀o∈l,0<=o.key)(hwf:∀o∈l,pz o)(hr:(xE M I ko l).countP lq=0)(hP:gN P)(gP:∀x,jo P x=(eG M I ko l).R x)(hp:P[j]?=some p):∃(q:Nat) (o:aB),uH (p.1:Int) l=(q:Int)/\l[q]?=some o/\o.val=(p.2:Int):=by
 have h1:=(iK hP).2 (show(p.1,p.2)∈P from zE hp);rw[gP,uG (IE hr)]at h1;obtain⟨q,o,h2,h3,h4,h5,h6⟩:=TW _ rfl hk h1;refine⟨q,o, ?_,h3, ?_⟩
 ·unfold uH;rw[h2]
 ·have:=hwf o (zE h3);unfold pz at this;omega
theorem afs (k m i:Int){A B:Option Addr}{c d:Nat}{ks:List Int}(h:Reads w w.heap.size 5 A l.length (aQ l))(hk:Reads w w.heap.size 1 B ks.length (ks.map (Value.int .u64)))(hwf:∀o∈l,pz o)(hE:Env w E w)(hEr:eU E w):
  Calls Tryz.prog 3 #[eX k m i,.slice A l.length c,.slice B ks.length d] w λy w'=>y= .returned (.bool true)/\Below w.heap.size w w':=by
 have hup:∀V,Below w.heap.size w V->Reads V V.heap.size 5 A l.length (aQ l):=λV hb=>(h.below hb).more hb.size;have hkp:∀V,Below w.heap.size w V->Reads V V.heap.size 1 B ks.length (ks.map (Value.int .u64)):=λV hb=>(hk.below hb).more hb.size;have T9:=qd (λ(hn:l.length<=65536) (V:World) (hb:Below w.heap.size w V)=>Zj (hE.next hb) hEr k m i (c:=c) (hup V hb) hn);have QM:=qd (λ(hn:l.length<=65536) (V:World) (hb:Below w.heap.size w V)=>Rk (hE.next hb) hEr k m i (c:=c) (hup V hb) hn hwf);have bI:=qd (λ(V:World) (hb:Below w.heap.size w V) (A':Option Addr) (c':Nat) (l':List aB) (hr:Reads V V.heap.size 5 A' l'.length (aQ l')) (hn:l'.length<=65536) (hs:l'.Sublist l)=>abY (hE.next hb) hEr k m i (c:=c') hr hn (λo ho=>hwf o (hs.subset ho)));obtain⟨L1,hL1⟩:∃L1,L1=l.filter (vZ ks):=⟨_,rfl⟩;have Yx:=qd hL1;have HOn:=qd (show∀(_:l.length<=65536) (_:ks.length<=65536) (V:World) (_:Below w.heap.size w V),Calls Tryz.prog 8 #[.slice A l.length c,.slice B ks.length d] V (CW V L1)from λhn hm V hb=>by rw[hL1];exact VY A l.length c l B ks.length d ks V (hup V hb) hn (hkp V hb) hm);have iD:=qd (show L1.Sublist l from by rw[hL1];exact List.filter_sublist);have HSh:=qd (λ(hn:l.length<=65536) (V:World) (hb:Below w.heap.size w V)=>Fh A l.length c l V (hup V hb) hn);have fE:=qd (λ(hn:l.length<=65536) (V:World) (hb:Below w.heap.size w V) (key:Int) (o:aB) (q:Nat) (hi:uH key l=(q:Int)) (ho:l[q]?=some o)=>Af A l.length c l key o q V (hup V hb) hn hi ho)
 have Gm:=qd (λ(hm:ks.length<=65536) (V:World) (hb:Below w.heap.size w V) (x:Int)=>adJ B ks.length d ks x V (hkp V hb) hm);have Na:=qd hup;have oZ:=qd hwf;clear hup hkp hE hEr h hk hwf hL1;unfold eX at T9 QM bI|-;go_in;go_upto_region 1 with fail;refine aY (F:=λV=>aj V w.heap.size 23 #[.int .i64 k,.int .i64 m,.int .i64 i]/\Below w.heap.size w V) ⟨aj.new w 23 #[.int .i64 k,.int .i64 m,.int .i64 i],(Below.refl w.heap.size w).alloc (zb _) _⟩ ?_;rintro w1 ⟨hX,hb1⟩;have HB1:=qd hb1;obtain⟨ba,hba⟩:∃ba,ba=w.heap.size:=⟨_,rfl⟩;rw[<-hba]at hX|-;have HXB:=qd (show∀V,Below w1.heap.size w1 V->aj V ba 23 #[.int .i64 k,.int .i64 m,.int .i64 i]from λV hV=>hX.below hV hX.lt);have HA1:=qd (adM w1);clear hX hb1 hba;go_wp2_with fail;refine HA1.o.mono ?_;rintro y w2 ⟨rfl,hb2⟩;have HB2:=qd hb2;clear hb2 HA1;by_cases hlong:300<l.length
 ·have zy:(300:Int)<(l.length:Int):=by omega
  have hd1:decide ((300:Int)<(l.length:Int))=true:=Xs zy;go_wp2;go_ret;exact⟨rfl,HB1.o.trans (HB2.o.mono HB1.o.size)⟩
 have zy:¬(300:Int)<(l.length:Int):=by omega
 have hd1:decide ((300:Int)<(l.length:Int))=false:=kb zy;have kU:=qd (show l.length<=65536 by omega);have HL0:=qd (show l.length<=300 by omega);clear hlong;by_cases hlk:30<ks.length
 ·have ab0:(30:Int)<(ks.length:Int):=by omega
  have hd2:decide ((30:Int)<(ks.length:Int))=true:=Xs ab0;go_wp2;go_ret;exact⟨rfl,HB1.o.trans (HB2.o.mono HB1.o.size)⟩
 have ab0:¬(30:Int)<(ks.length:Int):=by omega
 have hd2:decide ((30:Int)<(ks.length:Int))=false:=kb ab0;have Ub:=qd (show ks.length<=65536 by omega);clear hlk;have hx:=HXB.o w2 HB2.o;obtain⟨x0,x1,x2⟩:=hx.c3;have Lm:=qd (T9.o kU.o w2 (HB1.o.trans (HB2.o.mono HB1.o.size)));clear hx T9;go_wp2_with fail;refine Lm.o.mono ?_;rintro y w3 ⟨rfl,hb3⟩;have HB3:=qd (HB2.o.trans (hb3.mono HB2.o.size));replace x0:=aA hb3 x0;replace x1:=aA hb3 x1;replace x2:=aA hb3 x2;clear hb3 Lm HB2;by_cases hbg:fM k m i l=0
 focus
  have oD:=qd hbg;rw[hbg];have hrf:=QM.o kU.o w3 (HB1.o.trans (HB3.o.mono HB1.o.size));have HR1:=qd hrf;clear hrf hbg QM;go_wp2_with fail;refine HR1.o.mono ?_;rintro y w4 ⟨hy,hb4⟩;rw[if_neg (by rw[oD.o];decide)]at hy;have JV:=qd (HB3.o.trans (hb4.mono HB3.o.size));replace x0:=aA hb4 x0;replace x1:=aA hb4 x1;replace x2:=aA hb4 x2;clear hb4 HR1 HB3;obtain⟨N,hN⟩:∃N,N=(xE m.toNat i.toNat ko l).countP lq:=⟨_,rfl⟩;rw[<-hN]at hy;subst hy;by_cases hn0:0<N
  ·have agS:(0:Int)<(N:Int):=by omega
   have hd3:decide ((0:Int)<(N:Int))=true:=Xs agS;have hd4:decide (0<N)=true:=Xs hn0;clear hN;go_wp2;go_ret;exact⟨rfl,HB1.o.trans (JV.o.mono HB1.o.size)⟩
  have hN0:N=0:=by omega
  rw[hN0];have HN:=qd (show(xE m.toNat i.toNat ko l).countP lq=0 by omega);clear hN hn0 hN0;have uN:=qd (bI.o w4 (HB1.o.trans (JV.o.mono HB1.o.size)) A c l (Na.o w4 (HB1.o.trans (JV.o.mono HB1.o.size))) kU.o (List.Sublist.refl l));go_wp2_with fail;refine uN.o.mono ?_;rintro y w5 hy;obtain⟨A5,c5,P,rfl,ho5,hP,gP,hb5⟩:=IJ hy oD.o;have EG:=qd (JV.o.trans (hb5.mono JV.o.size));replace x0:=aA hb5 x0;replace x1:=aA hb5 x1;replace x2:=aA hb5 x2;have HP:=qd (And.intro hP gP);have HR5:=qd (show∀V,Below w5.heap.size w5 V->Reads V V.heap.size 2 A5 P.length (P.flatMap dQ)from λV hV=>Reads.jy (own_below ho5 hV (zb _)));have HZ:=qd (Below.refl w5.heap.size w5);have HT:=qd (HB1.o.trans (EG.o.mono HB1.o.size));clear hb5 uN JV EG ho5 hP gP hy;go_upto_region 9 with fail;refine rT (λ(w':World)=>w'.cell? ⟨ba,0,none⟩=some (.int .i64 k)/\w'.cell? ⟨ba,1,none⟩=some (.int .i64 m)/\w'.cell? ⟨ba,2,none⟩=some (.int .i64 i)) [4] ?_;have hHeld:=(⟨x0,x1,x2⟩:_/\_/\_);refine vT 0 rfl ?_;refine vW 1 rfl ?_;refine vW 2 rfl ?_;refine nT 3 rfl λK hK=> ?_;go_simp;refine(HOn.o kU.o Ub.o _ (by first|exact HT.o|exact HT.o.drew)).mono ?_;rintro y w6 ⟨v6,rfl,Dg,hb6⟩;obtain⟨A6,c6,rfl⟩:=bq Dg;have HO6:=qd Dg;replace HT:=qd (show Below w.heap.size w w6 from by first|exact HT.o.trans (hb6.mono HT.o.size)|exact HT.o.drew.trans (hb6.mono HT.o.drew.size))
  replace HZ:=qd (show Below w5.heap.size w5 w6 from by first|exact HZ.o.trans (hb6.mono HZ.o.size)|exact HZ.o.drew.trans (hb6.mono HZ.o.drew.size));replace x0:=aA hb6 x0;replace x1:=aA hb6 x1;replace x2:=aA hb6 x2;clear hb6 Dg;go_wp2_with fail;have hHeld:=(⟨x0,x1,x2⟩:_/\_/\_);refine kO hK ?_;clear hK K;refine nT 4 rfl λK hK=> ?_;go_simp;refine(bI.o _ (by first|exact HT.o|exact HT.o.drew) A6 c6 _ (Reads.jy HO6.o) (qf iD.o.length_le kU.o) (iD.o)).mono ?_;rintro y w7 hy;obtain⟨A7,c7,S,rfl,Dh,hS,gS,wN⟩:=IJ hy (Nl (iD.o) oD.o);replace HT:=qd (show Below w.heap.size w w7 from by first|exact HT.o.trans (wN.mono HT.o.size)|exact HT.o.drew.trans (wN.mono HT.o.drew.size));replace HZ:=qd (show Below w5.heap.size w5 w7 from by first|exact HZ.o.trans (wN.mono HZ.o.size)|exact HZ.o.drew.trans (wN.mono HZ.o.drew.size));replace x0:=aA wN x0;replace x1:=aA wN x1;replace x2:=aA wN x2;have HS:=qd (And.intro hS gS);have HR7:=qd (show∀V,Below w7.heap.size w7 V->Reads V V.heap.size 2 A7 S.length (S.flatMap dQ)from λV hV=>Reads.jy (own_below Dh hV (zb _)));clear Dh hS gS wN HO6 hy;go_wp2_with fail;refine kO hK ?_;clear hK K;refine vL 5 rfl ?_;refine vL 6 rfl ?_;refine vL 7 rfl ?_;refine vL 8 rfl ?_;refine vL 9 rfl ?_;refine aV (by kernel_rfl) ?_ _;clear HOn;have BN:=qd (Below.refl w7.heap.size w7);go_upto_region 10 with fail
  refine rT (λ(w':World)=>w'.cell? ⟨ba,0,none⟩=some (.int .i64 k)/\w'.cell? ⟨ba,1,none⟩=some (.int .i64 m)/\w'.cell? ⟨ba,2,none⟩=some (.int .i64 i)) [3] ?_;have hHeld:=(⟨x0,x1,x2⟩:_/\_/\_);refine vT 0 rfl ?_;refine vW 1 rfl ?_;refine nT 2 rfl λK hK=> ?_;go_simp;refine(HSh.o kU.o _ (by first|exact HT.o|exact HT.o.drew)).mono ?_;rintro y w8 ⟨v8,rfl,Rs,kF⟩;obtain⟨A8,c8,rfl⟩:=bq Rs;have HO8:=qd Rs;replace HT:=qd (show Below w.heap.size w w8 from by first|exact HT.o.trans (kF.mono HT.o.size)|exact HT.o.drew.trans (kF.mono HT.o.drew.size));replace HZ:=qd (show Below w5.heap.size w5 w8 from by first|exact HZ.o.trans (kF.mono HZ.o.size)|exact HZ.o.drew.trans (kF.mono HZ.o.drew.size));replace BN:=qd (show Below w7.heap.size w7 w8 from by first|exact BN.o.trans (kF.mono BN.o.size)|exact BN.o.drew.trans (kF.mono BN.o.drew.size));replace x0:=aA kF x0;replace x1:=aA kF x1;replace x2:=aA kF x2;clear kF Rs;go_wp2_with fail;have hHeld:=(⟨x0,x1,x2⟩:_/\_/\_);refine kO hK ?_;clear hK K;refine nT 3 rfl λK hK=> ?_;go_simp;refine(bI.o _ (by first|exact HT.o|exact HT.o.drew) A8 c8 _ (Reads.jy HO8.o) (qf (qG l).length_le kU.o) (qG l)).mono ?_;rintro y w9 hy;obtain⟨A9,c9,L,rfl,Xo,hL,gL,xM⟩:=IJ hy (Nl (qG l) oD.o);replace HT:=qd (show Below w.heap.size w w9 from by first|exact HT.o.trans (xM.mono HT.o.size)|exact HT.o.drew.trans (xM.mono HT.o.drew.size))
  replace HZ:=qd (show Below w5.heap.size w5 w9 from by first|exact HZ.o.trans (xM.mono HZ.o.size)|exact HZ.o.drew.trans (xM.mono HZ.o.drew.size));replace BN:=qd (show Below w7.heap.size w7 w9 from by first|exact BN.o.trans (xM.mono BN.o.size)|exact BN.o.drew.trans (xM.mono BN.o.drew.size));replace x0:=aA xM x0;replace x1:=aA xM x1;replace x2:=aA xM x2;clear xM HO8 hy;go_wp2_with fail;refine kO hK ?_;clear hK K;refine vL 4 rfl ?_;refine vL 5 rfl ?_;refine vL 6 rfl ?_;refine vL 7 rfl ?_;refine vL 8 rfl ?_;refine aV (by kernel_rfl) ?_ _;have HR9:=qd (show∀V,Below w9.heap.size w9 V->Reads V V.heap.size 2 A9 L.length (L.flatMap dQ)from λV hV=>Reads.jy (own_below Xo hV (zb _)));obtain⟨hLP,hlen,hSP⟩:=afn (ks:=ks) (Ud oZ.o) HN.o HP.o.1 HS.o.1 hL HP.o.2 (by rw[<-Yx.o];exact HS.o.2) gL;subst hLP;have Dk:=qd (λ(j:Nat) (p:Nat×Nat) (hp:L[j]?=some p)=>Zl (Ud oZ.o) oZ.o HN.o HP.o.1 HP.o.2 hp);have HSf:=qd hSP;have qg:=qd hlen;have HH2:=qd (HSh.o kU.o w9 HT.o);clear Xo hL gL HSh bI hSP hlen x0 x1 x2 HN HP HS;go_wp2_with fail;refine HH2.o.mono ?_;rintro y yP ⟨v10,rfl,Pe,Al⟩;obtain⟨A10,c10,rfl⟩:=bq Pe;rw[qg.o]
  have jT:=qd (show∀V,Below yP.heap.size yP V->(Reads V V.heap.size 2 A5 L.length (L.flatMap dQ)/\Reads V V.heap.size 2 A7 S.length (S.flatMap dQ)/\Reads V V.heap.size 2 A9 L.length (L.flatMap dQ))from λV hV=>by
   have h9:=Al.trans (hV.mono Al.size)
   exact⟨HR5.o V (HZ.o.trans (h9.mono HZ.o.size)),HR7.o V (BN.o.trans (h9.mono BN.o.size)),HR9.o V h9⟩)
  have HT2:=qd (show∀V,Below yP.heap.size yP V->Below w.heap.size w V from λV hV=>by
   have h9:=Al.trans (hV.mono Al.size)
   exact HT.o.trans (h9.mono HT.o.size))
  have HLl:=qd (show L.length<=300 from by rw[<-qg.o];exact qf (qG l).length_le HL0.o);have nV:=qd (Below.refl yP.heap.size yP);obtain⟨F,hF⟩:∃F:Nat×Nat->Bool,F=λp=>ks.contains (p.1:Int):=⟨_,rfl⟩;have HF:=qd hF;have HSF:=qd (show S=L.filter F from by rw[hF];exact HSf.o);clear Al HH2 Pe HZ BN HT HR5 HR7 HR9 HSf hF Na;go_wp2;go_loopw [15,98] (λv15 v98 wr=>∃j:Nat,j<=L.length/\v98=nI j/\v15= .int .i64 ((((L.take j).filter F).length:Nat):Int)/\Hqq (Below yP.heap.size yP wr)) (λ_ v98 _=>L.length-(intOf v98).toNat)
  case atStart=>exact⟨0,by omega,rfl,by simp,nV⟩
  case round=>
   clear nV;obtain⟨j,hj,rfl,rfl,nV⟩:=hrel;by_cases hlt:j<L.length
   ·have hlt':(j:Int)<(L.length:Int):=by omega
    have hj0:(0:Int)<=(j:Int):=by omega
    have TT:IntKind.i64.wrap ((j:Int)+1)=((j+1:Nat):Int):=by have:=HLl.o;rw[ZZ];omega
    obtain⟨p,hp⟩:∃p,L[j]?=some p:=⟨_,zg hlt⟩;obtain⟨N,hN⟩:∃N,N=((L.take j).filter F).length:=⟨_,rfl⟩
    have afm:N<=L.length:=by rw[hN];exact afr F j
    rw[<-hN]
    have hwN:IntKind.i64.wrap ((N:Int)+1)=((N+1:Nat):Int):=by have:=HLl.o;rw[ZZ];omega
    have lJ:=qd (show((L.take (j+1)).filter F).length=N+(if F p=true then 1 else 0)from by rw[hN];exact abZ hp);have HNs:=qd (show F p=true->S[N]?=some p from λhf=>by rw[HSF.o,hN];exact afq hp hf);obtain⟨h5,h7,h9⟩:=jT.o wr nV.o;have agT:=qd (show∀V,Below yP.heap.size yP V->Reads V V.heap.size 2 A7 S.length (S.flatMap dQ)from λV hV=>(jT.o V hV).2.1);obtain⟨g5,aft,Qn,_,xI⟩:=h5.2 (by omega);obtain⟨g9,afu,hA9,_,hc9⟩:=h9.2 (by omega);have r0:wr.cell? ⟨g5,aft+j*2,none⟩=some (nU p.1):=xI (j*2+0) _ (kQ hp (by omega));have r1:wr.cell? ⟨g5,aft+j*2+1,none⟩=some (nU p.2):=xI (j*2+1) _ (kQ hp (by omega));have s0:wr.cell? ⟨g9,afu+j*2,none⟩=some (nU p.1):=hc9 (j*2+0) _ (kQ hp (by omega));have s1:wr.cell? ⟨g9,afu+j*2+1,none⟩=some (nU p.2):=hc9 (j*2+1) _ (kQ hp (by omega));have HLq:=qd (Dk.o j p hp);have HM:=qd (show L.length-(j+1)<L.length-j by omega);subst Qn;subst hA9;clear xI hc9 h5 h7 h9 hp hN jT;go_upto_region 17 with fail;refine aY (F:=λv=>aj v wr.heap.size 39 #[nU p.1,nU p.2]/\Below wr.heap.size wr v) ⟨aj.new wr 39 #[nU p.1,nU p.2],(Below.refl wr.heap.size wr).alloc (zb _) _⟩ ?_;rintro w12 ⟨ab1,zA⟩;obtain⟨bx,hbx⟩:∃bx,bx=wr.heap.size:=⟨_,rfl⟩;rw[<-hbx]at ab1|-;obtain⟨x0,x1⟩:=ab1.c2;have y0:=aA zA s0;have y1:=aA zA s1;have V9:=qd (nV.o.trans (zA.mono nV.o.size));clear ab1 zA hbx r0 r1 s0 s1;go_quiet (fail);obtain⟨q,o,hq1,hq2,hq3⟩:=HLq.o;have afv:=qd (λ(V:World) (hV:Below w.heap.size w V)=>fE.o kU.o V hV (p.1:Int) o q hq1 hq2)
    have qZ:=qd hq3;clear hq1 hq2 hq3 HLq Dk fE qg;go_wp2_with fail;refine(afv.o _ (HT2.o _ (below_drewN V9.o _))).mono ?_;rintro y Ue ⟨rfl,Wd⟩;rw[qZ.o];have Wh:=qd (show Below yP.heap.size yP Ue from(below_drewN V9.o _).trans (Wd.mono (below_drewN V9.o _).size));replace x0:=aA Wd x0;replace x1:=aA Wd x1;have ab2:=qd (Gm.o Ub.o Ue (HT2.o Ue Wh.o) (p.1:Int));clear Wd afv V9 y0 y1;go_wp2_with fail;refine ab2.o.mono ?_;rintro y w14 ⟨rfl,rfl⟩;have HFp:=qd (show ks.contains (p.1:Int)=F p from by rw[HF.o]);rw[HFp.o]
    cases hf:F p with
    |false=>
     have HNy:=qd (show((L.take (j+1)).filter F).length=N from by rw[lJ.o,hf];rfl);clear hf lJ HNs HFp ab2;go_wp2;go_roundw
     case measure=>simp[intOf];exact HM.o
     exact⟨j+1,by omega,rfl,by rw[HNy.o],Wh⟩
    |true=>
     have HNy:=qd (show((L.take (j+1)).filter F).length=N+1 from by rw[lJ.o,hf];rfl);have hs:=HNs.o hf;have hsl:=(zz.1 hs).1
     have hN0:(0:Int)<=(N:Int):=by omega
     have hNl:(N:Int)<(S.length:Int):=by omega
     have hNg:¬(S.length:Int)<=(N:Int):=by omega
     have hd5:decide ((S.length:Int)<=(N:Int))=false:=kb hNg;obtain⟨g7,afw,hA7,_,hc7⟩:=((agT.o Ue Wh.o)).2 (by omega);have z0:Ue.cell? ⟨g7,afw+N*2,none⟩=some (nU p.1):=hc7 (N*2+0) _ (kQ hs (by omega));have z1:Ue.cell? ⟨g7,afw+N*2+1,none⟩=some (nU p.2):=hc7 (N*2+1) _ (kQ hs (by omega));subst hA7;clear hf lJ HNs HFp ab2 hc7 hs;go_upto_region 23 with fail;go_quiet (fail);go_wp2;go_roundw
     case measure=>simp[intOf];exact HM.o
     exact⟨j+1,by omega,rfl,by rw[HNy.o];simp,qd (below_drewN Wh.o _)⟩
   ·obtain rfl:j=L.length:=by omega
    have hlt':¬(L.length:Int)<(L.length:Int):=by omega
    rw[yr,<-HSF.o];have HFn:=qd (HT2.o wr nV.o);go_wp2;go_ret;exact⟨rfl,HFn.o⟩
 ·obtain⟨e,he⟩:∃e,e=fM k m i l:=⟨_,rfl⟩;rw[<-he]at hbg|-
  have hbi:¬(e:Int)=0:=by omega
  have hbd:decide ((e:Int)=0)=false:=kb hbi;have aiK:decide (e=0)=false:=kb hbg;clear he;go_wp2;go_ret;exact⟨rfl,HB1.o.trans (HB3.o.mono HB1.o.size)⟩
end
section
variable {s : ChangeSpec} {again apart fresh handsOn : Bool} {P : Program} {W : World}
section
variable {H : Type} {enc : TypeId × Value -> H}
theorem Sk {a:Assume}{C:Checked}{os:Os}{f:FuncId}{fn:Func}{conds:List PathCond}{X:World->Array Value->Prop}(hX:∀(w w':World) (args:Array Value),w.heap=w'.heap->X w args->X w' args)(own:ownKnob C.prog.godebug=none)(started:os.Started)(noInit:C.prog.inits.idxOf? f=none)(hfn:C.prog.funcs[f]?=some fn)(witness:∃(w:World) (tape:Tape) (i:Input),w.os=os/\(w.forCall tape i).Shaped C.prog/\i.vars=[]/\Input.okWide C.prog (w.forCall tape i) .any w.heap.size f i/\
   ((s.pre enc C.prog fn conds apart (w.forCall tape i).memory i.args/\X (w.forCall tape i).memory i.args)/\sizedMet enc C.prog fn (OpenSpec.ofChange s) apart (w.forCall tape i).memory i.args)/\a.holds C.prog (lone (Frame.enter C.prog f i.args .normal) [] (w.forCall tape i))) (contract:∀(W:World) (base:Nat) (args:Array Value) (ds gs:List (DataW H)) (before:List MemPlace),
   (∀(j:Nat) t v,fn.params[j]?=some t->args[j]?=some v->Value.okWide C.prog W .any base t v)->
   DataW.Whole enc C.prog fn.params.toList s.vars apart W args.toList ds gs before->
   (DataW.weightsEach C.prog (fn.params.toList++s.plain.varTypes C.prog) (ds++gs)).all (·<=reachBytes)=true->X W args->W.ShapedOpen C.prog->
   Calls C.prog f args W λe W'=>∃v,e= .returned v/\s.post enc C.prog fn apart fresh handsOn again W args v W'):
  ReturnsInHanded a C os f .any (λw args=>(s.pre enc C.prog fn conds apart w args/\X w args)/\sizedMet enc C.prog fn (OpenSpec.ofChange s) apart w args) (s.post enc C.prog fn apart fresh handsOn again):=by
 refine returnsInHanded_of_calls own started noInit witness ?_;intro w tape i _ hsh _ hok hpre hholds;obtain⟨_,_,_,fn',hfn',_,_,_,_,hval⟩:=hok;have e:fn'=fn:=QP (hfn'.symm.trans hfn);subst e;obtain⟨⟨⟨ds,gs,before,hw,hc⟩,hx⟩,hz⟩:=hpre;have hw':=DataW.Whole.of_heap (w':=w.forCall tape i) (by rfl) hw;refine(contract (w.forCall tape i) w.heap.size i.args ds gs before hval hw' (hz.weights hw) (hX _ _ _ (by rfl) hx) hsh).mono λe W' ⟨v,he,hp⟩=> ?_;subst he;exact ChangeSpec.post_blind hp
theorem Oc {f:Func}{W':World}{args:Array Value}{v:Value}{ds gs:List (DataW H)}{before pa pv:List MemPlace}(hW:DataW.Whole enc P f.params.toList s.vars apart W args.toList ds gs before)(hres:∀(b:Nat) (sp:Nat->Bool) (hd:Bool),DataW.TrodAll enc P W' b sp hd f.resultTypes.toList (v.resultList f.resultTypes.size) (s.fn H (ds++gs)).results [])(hargs:∀sp:Nat->Bool,(∀p∈before,sp p.block=true)->DataW.TrodAll enc P W' 0 sp true f.params.toList args.toList (s.fn H (ds++gs)).args pa)(hvars:∀sp:Nat->Bool,(∀p∈before,sp p.block=true)->DataW.TrodVars enc P W' sp s.vars (s.fn H (ds++gs)).vars pv)(hps:before=pa++pv)(hb:Below W.heap.size W W')(hok:∀(j:Nat) (t:TypeId) (r:Value),f.resultTypes[j]?=some t->(v.resultList f.resultTypes.size)[j]?=some r->Value.okWide P W' .any 0 t r):
  s.post enc P f apart fresh handsOn again W args v W':=by
 have hlt:∀p∈before,p.block<W.heap.size:=λp hp=>hW.lt p hp
 have hold:∀p∈before,(λb=>decide (b<W.heap.size)) p.block=true:=λp hp=>by simpa using hlt p hp
 refine⟨ds,gs,before,[],pa,pv,hW,hres _ _ _,hargs _ hold,hvars _ hold,World.keptBut_mono (λp hp=>⟨hp, ?_⟩) (hb.frame (·∈before)),λ_=> ?_⟩
 ·rw[hps,Zs]at hp;exact Or.inr hp
 ·obtain⟨_,_,_,_,_,hz,hn⟩:=hW;refine⟨hok,_,_,([]++pa)++pv,⟨[]++pa,pv,trodAll_append (hargs _ (λ_ _=>rfl)) (hres _ _ _),hvars _ (λ_ _=>rfl),rfl, ?_, ?_⟩, ?_⟩
  ·intro b off hp
   have hin:MemPlace.cell b off∈before:=by rw[hps];simpa using hp
   rw[hb.frozen (hlt _ hin)];exact hz b off hin
  ·intro ha;have:=hn ha;rw[hps]at this;simpa using this
  ·intro p hp _;rw[hps];simpa using hp
end
def afx (text:List UInt8):DataW Unit:= .iface "*errors.errorString" (.ptr (.agg [.lit (.string text)]))
theorem Km:∀(l:List (String×DataW Unit)) (ps:List MemPlace),DataW.LaidVars P W l ps->
  ∃pl:List (List MemPlace),ps=pl.flatten/\pl.length=l.length/\∀(i:Nat) (n:String) (d:DataW Unit),l[i]?=some (n,d)->
   ∃g t cs fuel p,P.globalNamed n=some g/\(P.globals[g]?).map (·.type)=some t/\W.var? P n=some cs/\DataW.trod (λ_=>()) P W 0 (λ_=>true) false fuel t cs.toList=some (d,p)/\
    pl[i]?=some (MemPlace.row ⟨g,0,none⟩ cs.size++p)
 | [],ps,h=>⟨[],by simpa[DataW.LaidVars]using h,rfl,λi n d hi=>by simp at hi⟩
 |(n,d)::r,ps,h=>by
  obtain⟨g,t,cs,fuel,p,q,h1,h2,h3,h4,h5,rfl⟩:=h;obtain⟨pl,e1,e2,e3⟩:=Km r q h5;refine⟨(MemPlace.row ⟨g,0,none⟩ cs.size++p)::pl,by rw[List.flatten_cons,<-e1],by simp[e2],λi n' d' hi=> ?_⟩
  cases i with
  |zero=>
   simp only[zc,Option.some.injEq,Prod.mk.injEq]at hi;obtain⟨rfl,rfl⟩:=hi;exact⟨g,t,cs,fuel,p,h1,h2,h3,h4,rfl⟩
  |succ i=>exact e3 i n' d' (by simpa using hi)
theorem star: "*" ++ "errors.errorString" = "*errors.errorString" :=by decide
theorem Rt (u:TypeId)(h:Tryz.prog.typeName? 3 u=some "*errors.errorString"):u=333 :=
 typeName_ptr_named (nm:= "errors.errorString") (by rw[star];kernel_rfl) (by kernel_rfl) (by decide) u (by rw[star];exact h)
theorem xG {α:Type}:∀(pl:List (List α)),pl.flatten.Nodup->∀(i j:Nat) (p q:List α) (x:α),i<j->pl[i]?=some p->pl[j]?=some q->x∈p->x∈q->False
 | [],_,i,j,p,q,x,_,h,_,_,_=>by simp at h
 |r::pl,hn,i,j,p,q,x,hij,hi,hj,hp,hq=>by
  rw[List.flatten_cons,yq]at hn;obtain⟨j,rfl⟩:∃j',j=j'+1:=⟨j-1,by omega⟩;rw[Q2]at hj
  cases i with
  |zero=>
   simp only[zc,Option.some.injEq]at hi;subst hi;exact hn.2.2 x hp x (List.mem_flatten.2 ⟨q,zE hj,hq⟩) rfl
  |succ i=>
   rw[Q2]at hi;exact xG pl hn.2.1 i j p q x (by omega) hi hj hp hq
theorem La {l:List (String×DataW Unit)}(h:laidMet Tryz.prog l W)(p:Nat)(hpos:∀k,k<16->∃n text,l[p+k]?=some (n,afx text)/\Tryz.prog.globalNamed n=some (gE (k+1))/\(Tryz.prog.globals[gE (k+1)]?).map (·.type)=some 29):∃E,eU E W:=by
 obtain⟨ps,hv,hnd,hrows⟩:=h;obtain⟨pl,e1,e2,e3⟩:=Km l ps hv
 have H:∀k,1<=k/\k<=16->∃(a:Addr),W.cell? ⟨gE k,0,none⟩=some (.iface 333 (.pointer (some a)))/\(∃c t,W.heap[a.block]?=some (.cells c t (0,0)))/\∃q,pl[p+(k-1)]?=some q/\MemPlace.cell a.block a.off∈q:=by
  rintro k ⟨hk1,hk2⟩;obtain⟨n,text,hl,hg,ht⟩:=hpos (k-1) (by omega);rw[show k-1+1=k by omega]at hg ht;obtain⟨g,t,cs,fuel,p',h1,h2,h3,h4,h5⟩:=e3 _ _ _ hl;obtain rfl:=QP (hg.symm.trans h1);obtain rfl:=QP (ht.symm.trans h2)
  have hmem:∀x∈MemPlace.row ⟨gE k,0,none⟩ cs.size++p',x∈ps:=by
   intro x hx;rw[e1];exact List.mem_flatten.2 ⟨_,zE h5,hx⟩
  obtain⟨l0⟩:=cs
  have ok0:∀u v,l0=[.iface u v]->Value.okWide Tryz.prog W .any 0 u v:=λu v e=>by
   subst e;exact(hrows (gE k) 0 (hmem _ (by simp[MemPlace.row]))).2 u v (by simpa using World.var?_cell hg h3 0)
  obtain⟨a0,s0,rfl,hc0,hs0,hz0,rfl⟩:=errorString_of_trod Tryz.underlying29 Rt Tryz.underlying333 Tryz.underlying373 rfl rfl Tryz.underlying9 (by kernel_rfl) (by kernel_rfl) h4 ok0;refine⟨a0,by simpa using World.var?_cell hg h3 0,(hrows a0.block a0.off (hmem _ (by simp[MemPlace.row]))).1,_,h5, ?_⟩;simp[MemPlace.row]
 refine⟨λk=>if h:1<=k/\k<=16 then Classical.choose (H k h)else default,⟨λk h1 h2=> ?_,λk h1 h2=> ?_,λj k h1 h2 h3 h4 e=> ?_⟩⟩
 ·have hk:1<=k/\k<=16:=⟨h1,h2⟩;simp only[hk,and_self,dif_pos];exact(Classical.choose_spec (H k hk)).1
 ·have hk:1<=k/\k<=16:=⟨h1,h2⟩;simp only[hk,and_self,dif_pos];exact(Classical.choose_spec (H k hk)).2.1
 ·have hj:1<=j/\j<=16:=⟨h1,h2⟩;have hk:1<=k/\k<=16:=⟨h3,h4⟩;simp only[hk,hj,and_self,dif_pos]at e;obtain⟨q1,hq1,hx1⟩:=(Classical.choose_spec (H j hj)).2.2;obtain⟨q2,hq2,hx2⟩:=(Classical.choose_spec (H k hk)).2.2;rw[e]at hx1;rw[e1]at hnd;rcases kp (p+(j-1)) (p+(k-1))with hlt|heq|hgt
  ·exact(xG pl hnd _ _ _ _ _ hlt hq1 hq2 hx1 hx2).elim
  ·omega
  ·exact(xG pl hnd _ _ _ _ _ hgt hq2 hq1 hx2 hx1).elim
end
def ahu (W:World)(k:Nat):Addr:=match W.cell? ⟨gE k,0,none⟩with
 |some (.iface _ (.pointer (some a)))=>a
 |_=>default
section
variable {cs : List Value} {v : Value} {p : List MemPlace}
def agU:List Int:=[0,1,56,2,57,49,28,3,61,58,42,50,38,29,17,4,62,47,59,36,45,43,51,22,53,39,33,30,24,18,12,5,63,55,48,27,60,41,37,16,46,35,44,21,52,32,23,11,54,26,40,15,34,20,31,10,25,14,19,9,13,8,7,6]
section
variable {H : Type} {enc : TypeId × Value -> H} {w : World} {base : Nat} {spare : Nat -> Bool} {held : Bool} {fuel : Nat}
theorem Nn {n:Int}(h:(Lit.int .i64 n).wf=true): -9223372036854775808<=n/\n<9223372036854775808:=by have:=Go.bounds_i64 h;omega
theorem Fj {n:Int}(h:(Lit.int .u64 n).wf=true):0<=n/\n<18446744073709551616:=by have:=Go.bounds_u64 h;omega
theorem adP {x:DataW H×List MemPlace}(h:DataW.trod enc Tryz.prog w base spare held fuel 45 cs=some x):∃o:aB,cs=oo o/\pz o:=by
 obtain⟨xs,m,rfl,rfl,hl,hxs,hf⟩:=DataW.trod_struct Tryz.underlying45 h
 have hc1:Tryz.prog.cellsOf 3 =1:=by kernel_rfl
 have hc2:Tryz.prog.cellsOf 37 =1:=by kernel_rfl
 have xI:Tryz.prog.cellsOf 45 =5:=by kernel_rfl
 rw[xI]at hl;have hx5:xs.length=5:=hxs;have f0:DataW.trod enc Tryz.prog w base spare held m 3 ((cs.drop 0).take (Tryz.prog.cellsOf 3))=xs[0]?:=hf 0 _ rfl;have f1:DataW.trod enc Tryz.prog w base spare held m 37 ((cs.drop 1).take (Tryz.prog.cellsOf 37))=xs[1]?:=hf 1 _ rfl;have f2:DataW.trod enc Tryz.prog w base spare held m 37 ((cs.drop 2).take (Tryz.prog.cellsOf 37))=xs[2]?:=hf 2 _ rfl;have f3:DataW.trod enc Tryz.prog w base spare held m 37 ((cs.drop 3).take (Tryz.prog.cellsOf 37))=xs[3]?:=hf 3 _ rfl;have f4:DataW.trod enc Tryz.prog w base spare held m 3 ((cs.drop 4).take (Tryz.prog.cellsOf 3))=xs[4]?:=hf 4 _ rfl;rw[hc1]at f0 f4;rw[hc2]at f1 f2 f3;rw[zg (by omega)]at f0 f1 f2 f3 f4;obtain⟨n0,q0,_,w0⟩:=k6 Tryz.underlying3 f0;obtain⟨n1,q1,_,w1⟩:=k6 Tryz.underlying37 f1;obtain⟨n2,q2,_,w2⟩:=k6 Tryz.underlying37 f2;obtain⟨n3,q3,_,w3⟩:=k6 Tryz.underlying37 f3;obtain⟨n4,q4,_,w4⟩:=k6 Tryz.underlying3 f4;obtain⟨y0,y1⟩:=Nn w0;obtain⟨y2,y3⟩:=Fj w1;obtain⟨y4,y5⟩:=Fj w2;obtain⟨y6,y7⟩:=Fj w3;obtain⟨y8,y9⟩:=Nn w4
 have hw:pz ⟨n0,n1,n2,n3,n4⟩:=by unfold pz;exact⟨y0,y1,y2,y3,y4,y5,y6,y7,y8,y9⟩
 refine⟨⟨n0,n1,n2,n3,n4⟩, ?_,hw⟩
 match cs,hl with
 | [a,b,c,d,e],_=>
  simp at q0 q1 q2 q3 q4;simp[oo,q0,q1,q2,q3,q4]
theorem Sl {O:Nat->aB}{n:Nat}:∀{i:Nat},i<n->∀j,j<5->(aQ ((List.range n).map O))[i*5+j]?=(oo (O i))[j]?:=by
 intro i hi j hj;obtain⟨o0,o1,o2,o3,o4⟩:=E5 ((List.range n).map O) i (O i) (by simp[hi])
 match j,hj with
 |0,_=>exact o0
 |1,_=>exact o1
 |2,_=>exact o2
 |3,_=>exact o3
 |4,_=>exact o4
instance :Inhabited aB:=⟨⟨0,0,0,0,0⟩⟩
theorem ab3 {d:DataW H}(ho:Value.okWide Tryz.prog w .any base 24 v)(h:DataW.Trod enc Tryz.prog w 0 (λ_=>true) true 24 v d p):
  ∃A n c l,v= .slice A n c/\n<=c/\Reads w w.heap.size 5 A n (aQ l)/\∀o∈l,pz o:=by
 obtain⟨a0,AO,cap0,rfl⟩:=okWide_slice Tryz.underlying24 ho;obtain⟨fuel,hf⟩:=h
 have xI:Tryz.prog.cellsOf 45 =5:=by kernel_rfl
 rcases open_slice Tryz.underlying24 hf with⟨hcs,_⟩|⟨a,len,cap,m,k,D,Pl,hcs,_,hl,_,hm,_,hx⟩
 ·simp[Value.cells]at hcs;obtain⟨rfl,rfl,rfl⟩:=hcs;refine⟨none,0,0,[],rfl,zb _, ?_,λ_ h=>absurd h Q1⟩;exact Reads.none_
 ·simp[Value.cells]at hcs;obtain⟨rfl,rfl,rfl⟩:=hcs;simp only[if_true]at hm;rw[xI]at hx
  obtain⟨O,hO⟩:=choose_lt (α:=aB) (n:=AO) (p:=λi o=>pz o/\∀j,j<5->w.cell? ((a.add (i*5)).add j)=(oo o)[j]?) (λi hi=>by
   obtain⟨cs',h1,h2⟩:=hx i (by omega);obtain⟨_,_,hcell⟩:=World.cells?_some h1;obtain⟨o,rfl,hw⟩:=adP h2
   exact⟨o,hw,hcell⟩)
  refine⟨some a,AO,cap0,(List.range AO).map O,rfl,hl,⟨by rw[dZ];simp,λhn=> ?_⟩,λo ho=> ?_⟩
  ·obtain⟨b,off,spot⟩:=a;have h00:=(hO 0 (by omega)).2 0 (by omega)
   have hspot:spot=none:=by simpa[Addr.add]using World.cell?_spot (h00.trans rfl)
   subst hspot;refine⟨b,off,rfl,by simpa[Addr.add]using qt w _ (h00.trans rfl),λj u hu=> ?_⟩
   have hj:j<AO*5:=by have:=(zz.1 hu).1;rw[dZ]at this;simpa using this
   have h1:=(hO (j/5) (by omega)).2 (j % 5) (by omega);rw[<-Sl (n:=AO) (by omega) _ (by omega),show j/5*5+j % 5=j by omega,hu]at h1;rw[add_plain,add_plain,show off+j/5*5+j % 5=off+j by omega]at h1;exact h1
  ·obtain⟨i,hi,rfl⟩:=Z3.1 ho;exact(hO i (by simpa using hi)).1
theorem ab4 {x:DataW H×List MemPlace}(h:DataW.trod enc Tryz.prog w base spare held fuel 23 cs=some x):∃a b c:Int,cs=[.int .i64 a,.int .i64 b,.int .i64 c]:=by
 obtain⟨xs,m,rfl,rfl,hl,hxs,hf⟩:=DataW.trod_struct Tryz.underlying23 h
 have hc1:Tryz.prog.cellsOf 3 =1:=by kernel_rfl
 have hc3:Tryz.prog.cellsOf 23 =3:=by kernel_rfl
 rw[hc3]at hl;have hx3:xs.length=3:=hxs;have f0:DataW.trod enc Tryz.prog w base spare held m 3 ((cs.drop 0).take (Tryz.prog.cellsOf 3))=xs[0]?:=hf 0 _ rfl;have f1:DataW.trod enc Tryz.prog w base spare held m 3 ((cs.drop 1).take (Tryz.prog.cellsOf 3))=xs[1]?:=hf 1 _ rfl;have f2:DataW.trod enc Tryz.prog w base spare held m 3 ((cs.drop 2).take (Tryz.prog.cellsOf 3))=xs[2]?:=hf 2 _ rfl;rw[hc1]at f0 f1 f2;rw[zg (by omega)]at f0 f1 f2;obtain⟨n0,q0,_,w0⟩:=k6 Tryz.underlying3 f0;obtain⟨n1,q1,_,w1⟩:=k6 Tryz.underlying3 f1;obtain⟨n2,q2,_,w2⟩:=k6 Tryz.underlying3 f2;refine⟨n0,n1,n2, ?_⟩
 match cs,hl with
 | [a,b,c],_=>
  simp at q0 q1 q2;simp[q0,q1,q2]
theorem ab5 {r:Reach}{b0:Nat}{d:DataW H}(hv:Value.okWide Tryz.prog w r b0 23 v)(h:DataW.Trod enc Tryz.prog w base spare held 23 v d p):∃k m i:Int,v= .agg #[.int .i64 k,.int .i64 m,.int .i64 i]:=by
 obtain⟨cs,rfl,hsz⟩:=okWide_struct Tryz.underlying23 hv;obtain⟨fuel,hf⟩:=h;obtain⟨a,b,c,hc⟩:=ab4 (cs:=cs.toList) hf;refine⟨a,b,c, ?_⟩;congr 1;apply Array.toList_inj.1;rw[hc]
end
end
section
section
variable {H : Type} {enc : TypeId × Value -> H} {w : World} {base : Nat} {spare : Nat -> Bool} {held : Bool} {fuel : Nat}
theorem ab6 {P:Program}{t:TypeId}{k:IntKind}{cs:List Value}{x:DataW H×List MemPlace}(ht:P.underlying t=some (.int k))(h:DataW.trod enc P w base spare held fuel t cs=some x):∃b,cs=[.int k b]:=by
 cases fuel with
 |zero=>simp[DataW.trod]at h
 |succ n=>
  unfold DataW.trod at h;rw[ht]at h
  split at h<;>simp_all
theorem Zm {t e:TypeId}{k:IntKind}(hu:Tryz.prog.underlying t=some (.slice e))(he:Tryz.prog.underlying e=some (.int k))(hc1:Tryz.prog.cellsOf e=1){v:Value}{d:DataW H}{p:List MemPlace}(ho:Value.okWide Tryz.prog w .any base t v)(h:DataW.Trod enc Tryz.prog w 0 (λ_=>true) true t v d p):
  ∃(A:Option Addr) (n c:Nat) (l:List Int),v= .slice A n c/\n<=c/\Reads w w.heap.size 1 A n (l.map (Value.int k)):=by
 obtain⟨a0,AO,cap0,rfl⟩:=okWide_slice hu ho;obtain⟨fuel,hf⟩:=h;rcases open_slice hu hf with⟨hcs,_⟩|⟨a,len,cap,m,kx,D,Pl,hcs,_,hl,_,hm,_,hx⟩
 ·simp[Value.cells]at hcs;obtain⟨rfl,rfl,rfl⟩:=hcs;exact⟨none,0,0,[],rfl,zb _,Reads.none_⟩
 ·simp[Value.cells]at hcs;obtain⟨rfl,rfl,rfl⟩:=hcs;simp only[if_true]at hm;rw[hc1]at hx
  obtain⟨O,hO⟩:=choose_lt (α:=Int) (n:=AO) (p:=λi b=>w.cell? (a.add i)=some (.int k b)) (λi hi=>by
   obtain⟨cs',h1,h2⟩:=hx i (by omega);obtain⟨_,_,hcell⟩:=World.cells?_some h1;obtain⟨b,rfl⟩:=ab6 he h2;have:=hcell 0 (by omega);rw[Nat.mul_one]at this;refine⟨b, ?_⟩;obtain⟨ab,ao,asp⟩:=a
   have e:((⟨ab,ao,asp⟩:Addr).add i).add 0=(⟨ab,ao,asp⟩:Addr).add i:=by
    unfold Addr.add
    split<;>simp_all
   rw[e]at this
   simpa using this)
  refine⟨some a,AO,cap0,(List.range AO).map O,rfl,hl,⟨by simp,λhn=> ?_⟩⟩
  ·obtain⟨b,off,spot⟩:=a;have h00:=hO 0 (by omega)
   have hspot:spot=none:=by simpa[Addr.add]using World.cell?_spot h00
   subst hspot;refine⟨b,off,rfl,by simpa[Addr.add]using qt w _ h00,λj u hu=> ?_⟩
   have hj:j<AO:=by have:=(zz.1 hu).1;simpa using this
   have h1:=hO j (by omega);rw[add_plain]at h1;rw[h1,<-hu];simp[hj]
end
end
