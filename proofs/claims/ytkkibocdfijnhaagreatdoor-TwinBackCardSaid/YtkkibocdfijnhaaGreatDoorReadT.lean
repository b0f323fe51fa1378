/- Package twin: End. No statement of the claim. -/
import Derived.Test.YtkkibocdfijnhaaGreatDoorTwB
import Derived.Test.YtkkibocdfijnhaaGreatDoorLaneP
import Derived.BigQuiet
import Derived.Test.YtkkibocdfijnhaaGreatDoorCoI
import Derived.Test.YtkkibocdfijnhaaGreatDoorRows
import Derived.ProofKit
import Derived.LaidMore
import Derived.Stop.LaidErr
import Derived.Lib.LaidTab
import Derived.HandedShaped
import Derived.Handed
import Derived.Test.YtkkibocdfijnhaaGreatDoorRunA
import Derived.Deep.Strs
import Derived.OpenShut
import Derived.Carry
namespace Go.Proofs.YtkkibocdfijnhaaGreatDoor
set_option maxRecDepth 100000
set_option maxHeartbeats 16000000
open Go.RowKit bV tF IC Go.ChangeShapes Go.WideShapes Go.ChangeAt Go.Deep
section
theorem entT_at {o:aV}{q:Nat}{u:Value}:∀{l:List aV} {i:Nat},l[i]?=some o→(DJ o.key 0 o.hash)[q]?=some u→(oZ l)[i*3+q]?=some u
 | [],_,h,_=>by simp at h
 |x::l,0,h,hu=>by
  obtain rfl:x=o:=by simpa using h
  have hq:=(List.getElem?_eq_some_iff.1 hu).1;unfold oZ;rw[List.flatMap_cons,List.getElem?_append_left (by omega),Nat.zero_mul,Nat.zero_add];exact hu
 |x::l,i+1,h,hu=>by
  have:=entT_at (l:=l) (i:=i) (by simpa using h) hu;unfold oZ at this⊢;rw[List.flatMap_cons,List.getElem?_append_right (by simp[DJ];omega)];rw[show(i+1)*3+q-(DJ x.key 0 x.hash).length=i*3+q by simp[DJ];omega];exact this
def DoIn (W0:World)(E:Nat→Addr)(K M I b:Nat)(l:List aV)(w:World)(j:Nat)(wr:World):Prop:=
 ∃G,gH W0 E (Bl l) K M I b G wr (kV M I vZ (l.take j))∧(∀q∈G,w.heap.size≤q)∧Below w.heap.size w wr
structure EndG (W0:World)(E:Nat→Addr)(H:Nat→Nat)(K M I b:Nat)(s:St)(L:List aV)(w:World)(B2 B5 fb:Nat)(v15:Value)(nf:Nat)(xs:List Value)(j:Nat)(G F:List Nat)(P:PL)(wr:World):Prop where
 at_:gH W0 E H K M I b G wr s
 pl:tK B2 wr fb M F P
 seen:nR s.R (L.take j) P
 row:pW B5 wr 62 3 v15 nf xs (G++F)
 ap:∀q∈F,q∉G
 lo:∀q∈G,w.heap.size≤q
 below:Below w.heap.size w wr
section
variable {W0 : World} {E : Nat → Addr} {H : Nat → Nat} {K M I b : Nat} {s : St} {L : List aV} {w : World} {B2 B5 fb : Nat} {v15 : Value} {nf : Nat} {xs : List Value} {j : Nat} {G F : List Nat} {P : PL} {wr V : World}
theorem EndG.next (h:EndG W0 E H K M I b s L w B2 B5 fb v15 nf xs j G F P wr)(hb:Below wr.heap.size wr V):EndG W0 E H K M I b s L w B2 B5 fb v15 nf xs j G F P V:=
 ⟨h.at_.below hb,h.pl.below hb,h.seen,h.row.below hb,h.ap,h.lo,h.below.trans (hb.mono h.below.size)⟩
theorem EndG.got (h:EndG W0 E H K M I b s L w B2 B5 fb v15 nf xs j G F P wr)(ht:gI W0 E H K M I b G wr V s):∃G',EndG W0 E H K M I b s L w B2 B5 fb v15 nf xs j G' F P V∧Mod G wr V:=by
 obtain⟨G',h1,h2,h3⟩:=ht;refine⟨G',⟨h1,h.pl.mod h3 (fun q hg hf=>h.ap q hf hg),h.seen, ?_,fun q hf hg=> ?_,fun q hq=>(h2 q hq).elim (h.lo q) (Nat.le_trans h.below.size),h.below.trans (h3.below h.lo h.below.size)⟩,h3⟩
 ·refine h.row.to (fun q hq=> ?_) (h3.more (fun k hk=>List.mem_append_left _ hk));rcases List.mem_append.1 hq with hq|hq
  ·exact(h2 q hq).imp (List.mem_append_left _) id
  ·exact .inl (List.mem_append_right _ hq)
 ·rcases h2 q hg with hg|hg
  ·exact h.ap q hf hg
  ·exact absurd (h.pl.fM q hf).1 (Nat.not_lt.2 hg)
theorem EndG.put (h:EndG W0 E H K M I b s L w B2 B5 fb v15 nf xs j G F P wr)(hB:w.heap.size≤B2)(h0:W0.heap.size≤w.heap.size){o:aV}{v:Nat}(ho:L[j]?=some o)(hv:s.R o.key.toNat=some v)(ht:ade B2 wr V fb M F (vS P o.key.toNat v)):∃F',EndG W0 E H K M I b s L w B2 B5 fb v15 nf xs (j+1) G F' (vS P o.key.toNat v) V:=by
 obtain⟨F',h1,h2,h3⟩:=ht;have hlo:∀q∈F,w.heap.size≤q:=fun q hq=>Nat.le_trans hB (h.pl.fM q hq).2;refine⟨F',⟨h.at_.mod h3 (fun q hq=>⟨h.ap q hq,Nat.le_trans h0 (hlo q hq)⟩),h1,by rw[sI ho];exact h.seen.some_ hv, ?_,fun q hf hg=> ?_,h.lo,h.below.trans (h3.below hlo h.below.size)⟩⟩
 ·refine h.row.to (fun q hq=> ?_) (h3.more (fun k hk=>List.mem_append_right _ hk));rcases List.mem_append.1 hq with hq|hq
  ·exact .inl (List.mem_append_left _ hq)
  ·exact(h2 q hq).imp (List.mem_append_right _) id
 ·rcases h2 q hf with hf|hf
  ·exact h.ap q hf hg
  ·exact absurd (h.at_.fM q hg).1 (Nat.not_lt.2 hf)
theorem EndG.skip (h:EndG W0 E H K M I b s L w B2 B5 fb v15 nf xs j G F P wr){o:aV}(ho:L[j]?=some o)(hv:s.R o.key.toNat=none):EndG W0 E H K M I b s L w B2 B5 fb v15 nf xs (j+1) G F P wr:=
 ⟨h.at_,h.pl,by rw[sI ho];exact h.seen.none_ hv,h.row,h.ap,h.lo,h.below⟩
end
def EndP (E:Nat→Addr)(k m i:Int)(l:List aV)(w:World)(y:Ending)(w':World):Prop:=
 ((jU k m i l≠0∧y= .returned (.tuple #[.slice none 0 0,dK E (jU k m i l)]))∨
  (jU k m i l=0∧∃(v:Value) (P:PL),y= .returned (.tuple #[v,.nilIface])∧w'.ownsRow w.heap.size 37 2 v P.length (P.flatMap eu)∧lW P∧∀x,uy P x=(kV m.toNat i.toNat vZ l).R x))∧Below w.heap.size w w'
theorem twin_End {W0:World}{E:Nat→Addr}{w:World}(hE:Env W0 E w)(hEr:eB E W0)(k m i:Int){A:Option Addr}{c:Nat}{l:List aV}(h:Reads w w.heap.size 5 A l.length (dR l))(hn:l.length≤65536)(hwf:∀o∈l,Dz o):
  Calls Tryz.prog 8 #[fZ k m i,.slice A l.length c] w (EndP E k m i l w):=by
 have hup:∀V,Below w.heap.size w V→Reads V V.heap.size 5 A l.length (dR l):=fun V hb=>by
  have h2:=h.below hb
  exact⟨h2.1,fun hn=>by
   obtain⟨g,off,a,b,d⟩:=h2.2 hn
   exact⟨g,off,a,Nat.lt_of_lt_of_le b hb.size,d⟩⟩
 have hop:∀(V:World),Below w.heap.size w V→Calls Tryz.prog 11 #[fZ k m i,.slice A l.length c] V (Te W0 E k m i l V):=fun V hb=>
  QZ (hE.next hb) (hEr.at_ 3 (by omega) (by omega)) (hEr.at_ 6 (by omega) (by omega)) (hEr.at_ 7 (by omega) (by omega)) (hEr.at_ 8 (by omega) (by omega)) (hEr.at_ 9 (by omega) (by omega)) k m i (hup V hb) hn hwf
 have hnw:∀V,Below w.heap.size w V→Calls Tryz.prog 15 #[fZ k m i] V _:=fun V hb=>Wl (Bl l) (hE.next hb) k m i;have hhs:∀V,Below w.heap.size w V→Calls Tryz.prog 18 #[.slice A l.length c] V (Zg V l):=fun V hb=>LQ A l.length c l V (hup V hb) hn hwf;have GU:=qd hop;have jL:=qd hnw;have U0:=qd hhs;have l9:=qd h;have BD:=qd (And.intro (hEr.at_ 6 (by omega) (by omega)) (hEr.at_ 7 (by omega) (by omega)));have Ii:=qd hE.size;have yN:=qd hwf;clear hup hop hnw hhs hE hEr h hwf hn;unfold fZ at GU jL⊢;go_in;go_upto_region 1 with fail;refine aZ (F:=fun V=>aj V w.heap.size 23 #[.int .i64 k,.int .i64 m,.int .i64 i]∧Below w.heap.size w V) ⟨aj.new w 23 #[.int .i64 k,.int .i64 m,.int .i64 i],(Below.refl w.heap.size w).alloc (Nat.le_refl _) _⟩ ?_;rintro w1 ⟨hX,hb1⟩;have HB1:=qd hb1;obtain⟨bx,hbx⟩:∃bx,bx=w.heap.size:=⟨_,rfl⟩;rw[←hbx]at hX⊢;have HX:=qd hX;obtain⟨x0,x1,x2⟩:=hX.c3;have wY:=qd (GU.out w1 hb1);clear hX hb1 hbx;go_wp2_with fail;refine wY.out.mono ?_;rintro y w2 ⟨hy,hb2⟩;have HB2:=qd hb2;clear hb2 wY GU;rcases hy with⟨hbg,rfl⟩|⟨hbg,v1,us,rfl,ho1,_⟩
 ·obtain⟨e,he⟩:∃e,e=jU k m i l:=⟨_,rfl⟩;have HFin:=qd (show∀V,Below w.heap.size w V→EndP E k m i l w (.returned (.tuple #[.slice none 0 0,dK E e])) V from fun V hV=>⟨.inl ⟨hbg,by rw[←he]⟩,hV⟩);rw[←he]at hbg⊢;rw[fI E (by omega)]at HFin⊢;clear he hbg;go_wp2;refine bodyPost_ret (v:= .tuple #[.slice none 0 0,.iface 318 (.pointer (some (E e)))]) (by simp[results,Tryz.results8,go_sem]) rfl (HFin.out _ (HB1.out.trans (HB2.out.mono HB1.out.size)))
 obtain⟨A1,c1,rfl⟩:=bU ho1;have Dc:=qd (ac7 hbg);have sZ:=qd hbg;replace x0:=aA HB2.out x0;replace x1:=aA HB2.out x1;replace x2:=aA HB2.out x2;have HN2:=qd (jL.out w2 (HB1.out.trans (HB2.out.mono HB1.out.size)));clear ho1 hbg jL;go_wp2_with fail;refine HN2.out.mono ?_;rintro y w3 ⟨hy,hb3⟩;have HB3:=qd (HB2.out.trans (hb3.mono HB2.out.size));clear hb3 HN2 x0 x1 x2;rcases hy with⟨hc,_⟩|⟨hc,b,G,rfl,hD,hG⟩
 ·rw[Dc.out.cfg]at hc;cases hc
 have hcf:=QY hc;obtain⟨K,hK⟩:∃K,K=k.toNat:=⟨_,rfl⟩;obtain⟨M,hM⟩:∃M,M=m.toNat:=⟨_,rfl⟩;obtain⟨I,hI⟩:∃I,I=i.toNat:=⟨_,rfl⟩;rw[←hK,←hM,←hI]at hD;have HMI:=qd (show 1≤M∧1≤I by omega);have HM:=qd (show m=(M:Int) by omega);have HFin:=qd (show∀V v P,Below w.heap.size w V→V.ownsRow w.heap.size 37 2 v P.length (P.flatMap eu)→lW P→(∀x,uy P x=(kV M I vZ l).R x)→EndP E k m i l w (.returned (.tuple #[v,.nilIface])) V from fun V v P hV ho ha hg=>⟨.inr ⟨sZ.out,v,P,rfl,ho,ha,by rw[←hM,←hI];exact hg⟩,hV⟩);have qY:RowKit.Hid (DoIn W0 E K M I b l w1 0 w3):=qd ⟨G,hD,fun q hq=>Nat.le_trans HB2.out.size (hG q hq),HB3.out⟩;clear hcf hc hK hM hI hD hG sZ HB2 HB3;go_wp2;go_loopw [39] (fun v39 wr=>∃j:Nat,j≤l.length∧v39=nI j∧Hid (DoIn W0 E K M I b l w1 j wr)) (fun v39 _=>l.length-(intOf v39).toNat)
 case atStart=>exact⟨0,by omega,rfl,qY⟩
 case round=>
  clear qY;obtain⟨j,hj,rfl,qY⟩:=hrel;by_cases hlt:j<l.length
  ·have ho:l[j]?=some (l[j]'hlt):=List.getElem?_eq_getElem _;generalize l[j]'hlt=o at ho;obtain⟨G1,hD,hG1,hbr⟩:=qY.out;obtain⟨gb,off,rfl,hb,c0,c1,c2,c3,c4⟩:=yh (l9.out.below (HB1.out.trans (hbr.mono HB1.out.size))) ho
   have hlt':(j:Int)<(l.length:Int):=by omega
   have hj0:(0:Int)≤(j:Int):=by omega
   have hl2:=Dc.out.len
   have hwj:IntKind.i64.wrap ((j:Int)+1)=((j+1:Nat):Int):=by rw[IntKind.wrap_i64];omega
   have hmem:=List.mem_of_getElem? ho;have hgv:=Ir M I (l.take j) vZ
   have hgl:(l.take j).length≤j:=by rw[List.length_take];omega
   have HT:=qd (sI ho);have HD:=qd (And.intro hG1 hbr);have HDo:=qd (fun(V:World) (hV:Below wr.heap.size wr V)=>Wd (hD.below hV) o (Dc.out.right o hmem) (yN.out o hmem) (fun hk=>YW Dc.out.free yN.out hmem hk) (YV yN.out) (by have:vZ.gv=0:=rfl;omega) HMI.out BD.out.1 BD.out.2);clear hD hG1 hbr hmem hgv hgl ho hb qY;go_upto_region 10 with fail;refine aZ (F:=fun v=>aj v wr.heap.size 40 #[.int .i64 o.kind,.int .u64 o.key,.int .u64 o.val,.int .u64 o.hash,.int .i64 o.iter]∧Below wr.heap.size wr v) ⟨aj.new wr 40 #[.int .i64 o.kind,.int .u64 o.key,.int .u64 o.val,.int .u64 o.hash,.int .i64 o.iter],(Below.refl wr.heap.size wr).alloc (Nat.le_refl _) _⟩ ?_;rintro w2 ⟨hX2,hb2⟩;obtain⟨x0,x1,x2,x3,x4⟩:=hX2.c5;have hdo:=HDo.out w2 hb2;unfold BP at hdo;have ac8:=qd hdo;have HD2:=qd (HD.out.2.trans (hb2.mono HD.out.2.size));obtain⟨xb,hxb⟩:∃xb,xb=wr.heap.size:=⟨_,rfl⟩;rw[←hxb]at x0 x1 x2 x3 x4⊢;clear hX2 hb2 hdo HDo hxb c0 c1 c2 c3 c4;go_wp2_with fail;refine ac8.out.mono ?_;rintro y w4 ⟨a,rfl,_,hto⟩;obtain⟨G4,hD4,hs4,dP⟩:=hto;have HIn4:RowKit.Hid (∀V,Below w4.heap.size w4 V→DoIn W0 E K M I b l w1 (j+1) V):=qd (fun V hV=>⟨G4,by rw[HT.out,OW];exact hD4.below hV,fun q hq=>(hs4 q hq).elim (HD.out.1 q) (Nat.le_trans HD2.out.size),(HD2.out.trans (dP.below HD.out.1 HD2.out.size)).trans (hV.mono (Nat.le_trans HD2.out.size dP.size))⟩);have Nj:=qd (show l.length-(j+1)<l.length-j by omega);clear hD4 hs4 dP ac8 HD2 HD HT;unfold oh;rcases lI E a.err with hu|⟨Ae,hu⟩
   all_goals
    rw[hu];clear hu;go_wp2;go_roundw
    case measure=>simp[intOf];exact Nj.out
    exact⟨j+1,by omega,rfl,qd (HIn4.out _ ((Below.refl _ _).alloc (Nat.le_refl _) _))⟩
  ·obtain rfl:j=l.length:=by omega
   have hlt':¬(l.length:Int)<(l.length:Int):=by omega
   obtain⟨G1,hD,hG1,hbr⟩:=qY.out;rw[List.take_length]at hD;have HD:=qd (And.intro hD (And.intro hG1 hbr));have hX:=HX.out.below hbr HX.out.lt;have x1:=hX.cell 1;simp only[gl]at x1;rw[HM.out]at x1;have HPn:=qd (adg M wr);clear hD hG1 hbr hX qY HX;go_wp2_with fail;refine HPn.out.mono ?_;rintro y w5 ⟨rfl,hf5,hb5⟩;obtain⟨fb,pF⟩:∃fb,fb=wr.heap.size:=⟨_,rfl⟩;have HF5:=qd (show tK wr.heap.size w5 fb M [fb] []from by rw[pF];exact hf5);have HD5:=qd (And.intro (HD.out.1.below hb5) (And.intro HD.out.2.1 (And.intro (HD.out.2.2.trans (hb5.mono HD.out.2.2.size)) (And.intro hb5.size HD.out.2.2.size))));have HG5:=qd (show∀q∈G1,q<wr.heap.size from fun q hq=>(HD.out.1.fM q hq).1);have HHs5:=qd (U0.out w5 (HB1.out.trans (HD5.out.2.2.1.mono HB1.out.size)));rw[←pF];have HFb:=qd (show fb=wr.heap.size from pF);clear hf5 hb5 HPn HD x1 U0 pF;go_wp2_with fail;refine HHs5.out.mono ?_;rintro y w6 ⟨v15,rfl,ho6,hb6⟩;obtain⟨A6,c6,rfl⟩:=bU ho6;obtain⟨L,hL⟩:∃L,L=firsts l:=⟨_,rfl⟩;rw[←hL]at ho6⊢;obtain⟨s,hs⟩:∃s,s=kV M I vZ l:=⟨_,rfl⟩;have gB:=qd (And.intro hL hs);obtain⟨B2,hB2⟩:∃B2,B2=wr.heap.size:=⟨_,rfl⟩
   have OO:EndG W0 E (Bl l) K M I b s L w1 B2 w5.heap.size fb (.slice A6 L.length c6) L.length (oZ L) 0 G1 [fb] [] w6:=by
    rw[hs,hB2];refine⟨HD5.out.1.below hb6,HF5.out.below hb6,nR.nil _,⟨ho6,fun g hg hq=> ?_⟩,fun q hf hg=> ?_,HD5.out.2.1,HD5.out.2.2.1.trans (hb6.mono HD5.out.2.2.1.size)⟩
    ·have h1:=(ho6.lt g (by rw[hg])).1;rcases List.mem_append.1 hq with hq|hq
     ·have:=HG5.out g hq;have:=HD5.out.2.2.2.1;omega
     ·rw[List.mem_singleton.1 hq]at h1;have:=(HF5.out.fM fb (by simp)).1;omega
    ·have h1:=HG5.out q hg;rw[List.mem_singleton.1 hf,HFb.out]at h1;omega
   have HIn6:RowKit.Hid (∃G F P,EndG W0 E (Bl l) K M I b s L w1 B2 w5.heap.size fb (.slice A6 L.length c6) L.length (oZ L) 0 G F P w6):=qd ⟨_,_,_,OO⟩;have HBr:=qd (show w1.heap.size≤B2 from by rw[hB2];exact HD5.out.2.2.2.2);have HL2:=qd (show L.length≤2000 from by rw[hL];exact Nat.le_trans (LM l) Dc.out.len);clear OO ho6 hb6 hL hs hB2 HHs5 HD5 HF5 HG5 HFb;go_wp2;go_loopw [59] (fun v59 wr=>∃j:Nat,j≤L.length∧v59=nI j∧Hid (∃G F P,EndG W0 E (Bl l) K M I b s L w1 B2 w5.heap.size fb (.slice A6 L.length c6) L.length (oZ L) j G F P wr)) (fun v59 _=>L.length-(intOf v59).toNat)
   case atStart=>exact⟨0,by omega,rfl,HIn6⟩
   case round=>
    clear HIn6;obtain⟨j,hj,rfl,HIn6⟩:=hrel;by_cases hlt2:j<L.length
    ·have ho:L[j]?=some (L[j]'hlt2):=List.getElem?_eq_getElem _;generalize L[j]'hlt2=o at ho
     have adk:(j:Int)<(L.length:Int):=by omega
     have hj0:(0:Int)≤(j:Int):=by omega
     have hwj:IntKind.i64.wrap ((j:Int)+1)=((j+1:Nat):Int):=by have:=HL2.out;rw[IntKind.wrap_i64];omega
     obtain⟨G2,F2,P2,hG2⟩:=HIn6.out;obtain⟨hm1,hm2⟩:=adG (by rw[←gB.out.1];exact List.mem_of_getElem? ho);obtain⟨g,off,hA6,_,hc6⟩:=(Reads.mG hG2.row.row).2 (by omega);obtain⟨kN,hkN⟩:∃kN,kN=o.key.toNat:=⟨_,rfl⟩
     have hk0:o.key=(kN:Int):=by obtain⟨_,_,q1,_⟩:=yN.out o hm1;omega
     have hh0:o.hash=(Bl l kN:Int):=by rw[hkN];exact YW Dc.out.free yN.out hm1 hm2
     have r0:_=some (Value.int .u64 (kN:Int)):=hc6 (j*3+0) (nU kN) (entT_at ho (by rw[hk0];rfl));have r1:_=some (Value.int .u64 0):=hc6 (j*3+1) (.int .u64 0) (entT_at ho rfl);have r2:_=some (Value.int .u64 (Bl l kN:Int)):=hc6 (j*3+2) (.int .u64 (Bl l kN:Int)) (entT_at ho (by rw[hh0];rfl));rw[show off+(j*3+0)=off+j*3 by omega]at r0;rw[show off+(j*3+1)=off+j*3+1 by omega]at r1;rw[show off+(j*3+2)=off+j*3+2 by omega]at r2;have HO:=qd ho;have HKn:=qd hkN;have HG2:=qd hG2;have Nj:=qd (show L.length-(j+1)<L.length-j by omega);subst hA6;clear hc6 ho hkN hk0 hh0 hm1 hm2 hG2 HIn6;go_upto_region 18 with fail;refine aZ (F:=fun v=>aj v wr.heap.size 62 #[nU kN,.int .u64 0,.int .u64 (Bl l kN:Int)]∧Below wr.heap.size wr v) ⟨aj.new wr 62 #[nU kN,.int .u64 0,.int .u64 (Bl l kN:Int)],(Below.refl wr.heap.size wr).alloc (Nat.le_refl _) _⟩ ?_;rintro w7 ⟨hX7,UF⟩;obtain⟨eb,BF⟩:∃eb,eb=wr.heap.size:=⟨_,rfl⟩;rw[←BF]at hX7⊢;have x0:=hX7.cell 0;have x2:=hX7.cell 2;simp only[gl]at x0 x2;have hG7:=HG2.out.next UF;have HGt:=qd (V7 hG7.at_ kN (YV yN.out kN));have HX7:=qd hX7;have qI:=qd (show eb∉G2 from fun hg=>by have:=(HG2.out.at_.fM eb hg).1;omega);have HG7:=qd hG7;clear hX7 UF BF hG7 r0 r1 r2 HG2;go_wp2_with fail;refine HGt.out.mono ?_;rintro y w8 ⟨rfl,hto⟩;obtain⟨G8,hG8,hm8⟩:=HG7.out.got hto;have hX8:=HX7.out.mod hm8 qI.out;have HG8:=qd hG8;clear x0 x2 hto hm8 HGt HG7;have x0:=hX8.cell 0;simp only[gl]at x0
     cases hv:s.R kN with
     |none=>
      have aex:RowKit.Hid (∃G F P,EndG W0 E (Bl l) K M I b s L w1 B2 w5.heap.size fb (.slice (some ⟨g,off,none⟩) L.length c6) L.length (oZ L) (j+1) G F P w8):=qd ⟨_,_,_,HG8.out.skip HO.out (by rw[←HKn.out];exact hv)⟩;clear hv hX8 hG8 HX7;go_wp2;go_roundw
      case measure=>simp[intOf];exact Nj.out
      exact⟨j+1,by omega,rfl,aex⟩
     |some v=>
      have hroom:=nR.room HG8.out.at_ HG8.out.seen hv;have J6:=qd (adh HG8.out.pl (by omega) kN v hroom.1 (by have:=HG8.out.at_.least.2;omega));have HV:=qd hv;clear hv hX8 hG8 HX7 hroom;simp only[Option.getD_some];go_wp2_with fail;refine J6.out.mono ?_;rintro y w9 ⟨rfl,hto⟩
      have aex:RowKit.Hid (∃G F P,EndG W0 E (Bl l) K M I b s L w1 B2 w5.heap.size fb (.slice (some ⟨g,off,none⟩) L.length c6) L.length (oZ L) (j+1) G F P w9):=qd (by
       have hto':ade B2 w8 w9 fb M F2 (vS P2 o.key.toNat v):=by rw[←HKn.out];exact hto
       obtain⟨F9,h9⟩:=HG8.out.put HBr.out (Nat.le_trans Ii.out HB1.out.size) HO.out (by rw[←HKn.out];exact HV.out) hto'
       exact⟨_,_,_,h9⟩)
      clear hto J6 x0;go_wp2;go_roundw
      case measure=>simp[intOf];exact Nj.out
      exact⟨j+1,by omega,rfl,aex⟩
    ·obtain rfl:j=L.length:=by omega
     have adk:¬(L.length:Int)<(L.length:Int):=by omega
     obtain⟨G2,F2,P2,hG2⟩:=HIn6.out;have hP:=hG2.seen;rw[List.take_length,gB.out.1,gB.out.2]at hP;have HP2:=qd (And.intro hP.rC (fun x=>hP.end_ x));have HBq:=qd (HB1.out.trans (hG2.below.mono HB1.out.size))
     have uR:=qd (Zm hG2.pl (by
      have h1:=hG2.at_.count (IJ hG2.seen.rC) (fun k hk=>hG2.seen.O7 hk);have h2:=hG2.at_.least;rw[List.length_map]at h1
      omega))
     clear hP hG2 HIn6;go_wp2_with fail;refine uR.out.mono ?_;rintro y w8 ⟨v8,rfl,ho8,qA⟩;have HF:=qd (HFin.out w8 v8 P2 (HBq.out.trans (qA.mono HBq.out.size)) (Wu ho8 HBq.out.size) HP2.out.1 HP2.out.2);obtain⟨A8,c8,rfl⟩:=bU ho8;clear ho8 qA uR;go_wp2;refine bodyPost_ret (v:= .tuple #[.slice A8 P2.length c8,.nilIface]) (by simp[results,Tryz.results8,go_sem]) rfl HF.out
end
section
variable {I M : Nat} {E : Nat → Addr} {w w' : World} {i i' k k' m m' : Int} {l : List aV} {y : Ending}
theorem cmpA_self:∀l:List mh,nQ l l=none
 | []=>rfl
 |a::l=>by
  unfold nQ;rw[if_neg (by simp),cmpA_self l];rfl
theorem cmpA_symm {M' I':Nat}:∀(l:List aV) (s s':St),nQ (zq M I s l) (zq M' I' s' l)=nQ (zq M' I' s' l) (zq M I s l)
 | [],_,_=>rfl
 |o::l,s,s'=>by
  unfold zq nQ;rw[cmpA_symm l];congr 1;apply propext;constructor
  ·rintro⟨a,b⟩;exact⟨a,fun e=>b e.symm⟩
  ·rintro⟨a,b⟩;exact⟨a,fun e=>b e.symm⟩
theorem reads_litT (w:World)(t:TypeId)(l:PL)(cs:List Value)(hc:l.flatMap eu=cs)(hn:cs.length=l.length*2):Reads (w.alloc (.cells cs.toArray t)) (w.heap.size+1) 2 (some ⟨w.heap.size,0,none⟩) l.length (l.flatMap eu):=by
 subst hc;refine⟨hn,fun _=>⟨w.heap.size,0,rfl,Nat.lt_succ_self _,fun j u hu=> ?_⟩⟩;have h:=(aj.new w t (l.flatMap eu).toArray).cell j;rw[Nat.zero_add,h];simpa using hu
def opsA:List aV:=[⟨2,1,2,3,0⟩,⟨1,1,0,3,0⟩]
theorem opsA_wf:∀o∈opsA,Dz o:=by
 intro o ho;simp only[opsA,List.mem_cons,List.not_mem_nil,or_false]at ho
 rcases ho with rfl|rfl<;>(unfold Dz;decide)
theorem opsA_beg1:jU 1 5 1 opsA=0:=by decide
theorem opsA_beg64:jU 64 5 1 opsA=0:=by decide
theorem opsA_end (x:Nat):(kV 5 1 vZ opsA).R x=uy [(1,2)] x:=by
 have:kV 5 1 vZ opsA={vZ with R:=FW 5 vZ.R 0 1 2,n:=FX 5 (vZ.R 1) 0}:=rfl;rw[this];simp only[FW,noRoom,vZ];unfold uy;by_cases hx:x=1
 ·subst hx;rfl
 ·simp[hx,Ne.symm hx]
theorem asc12:lW [(1,2)]:=by unfold lW;simp
theorem law37_alive {W0:World}(hE:Env W0 E w)(hEr:eB E W0):
  Calls Tryz.prog 4 #[] w fun y w'=>y= .returned (.bool true)∧Below w.heap.size w w':=by
 have HE:=qd (And.intro hE hEr);clear hE hEr;go_in;go_upto_region 2 with fail;refine aZ (F:=fun V=>aj V w.heap.size 40 (dR opsA).toArray∧Below w.heap.size w V) ⟨aj.new w 40 (dR opsA).toArray,(Below.refl w.heap.size w).alloc (Nat.le_refl _) (.cells (dR opsA).toArray 40)⟩ ?_;rintro w1 ⟨hX,hb1⟩;have HB1:=qd hb1;obtain⟨ob,l7⟩:∃ob,ob=w.heap.size:=⟨_,rfl⟩
 have l9:=qd (show∀V,Below w1.heap.size w1 V→Reads V V.heap.size 5 (some ⟨ob,0,none⟩) opsA.length (dR opsA)from fun V hV=>by
  have hX2:=hX.below hV hX.lt;refine⟨by rw[jP],fun _=>⟨ob,0,rfl,by rw[l7];exact hX2.lt,fun j u hu=> ?_⟩⟩;rw[Nat.zero_add,l7,hX2.cell j]
  simpa using hu)
 rw[←l7];have HC:=qd (O1 (HE.out.1.next hb1) HE.out.2 1 5 1 64 5 1 (c:=2) (l9.out w1 (Below.refl _ _)) (by decide) opsA_wf);unfold fZ at HC;clear hX hb1 l7;go_wp2_with fail;refine HC.out.mono ?_;rintro y w2 ⟨rfl,hb2⟩;have HB2:=qd (HB1.out.trans (hb2.mono HB1.out.size));rw[if_neg (by rw[opsA_beg1];decide),if_neg (by rw[opsA_beg64];decide),cmpA_self];have HD:=qd (twin_End (HE.out.1.next HB2.out) HE.out.2 1 5 1 (c:=2) (l9.out w2 hb2) (by decide) opsA_wf);unfold fZ at HD;clear hb2 HC;go_wp2_with fail;refine HD.out.mono ?_;rintro y w3 ⟨hy,hb3⟩;have HB3:=qd (HB2.out.trans (hb3.mono HB2.out.size));clear hb3 HD;rcases hy with⟨h,_⟩|⟨_,v,P,rfl,ho,ha,hg⟩
 ·rw[opsA_beg1]at h;exact absurd rfl h
 obtain rfl:P=[(1,2)]:=Zi ha asc12 fun x=>by rw[hg];exact opsA_end x
 obtain⟨A,c,rfl⟩:=bU ho;have hO:=Reads.mG ho;have hsm:=aby (c:=c) (c':=1) (hO.below ((Below.refl w3.heap.size w3).alloc (Nat.le_refl _) (.cells #[.int .u64 1,.int .u64 2] 37))) (reads_litT w3 37 [(1,2)] [.int .u64 1,.int .u64 2] rfl rfl) (by decide);rw[decide_eq_true (rfl: [(1,2)]=[(1,2)])]at hsm;have CF:=qd hsm;clear hsm ho ha hg hO;go_wp2_with fail;refine CF.out.mono ?_;rintro y w7 ⟨rfl,UF⟩;have HB7:=qd (HB3.out.trans ((((Below.refl w3.heap.size w3).alloc (Nat.le_refl _) _).trans (UF.mono (by simp))).mono HB3.out.size));clear UF CF;go_wp2;go_ret;exact⟨rfl,HB7.out⟩
theorem cmp_bad (h:Tg E k m i k' m' i' l w y w')(ha:jM k m i=true)(he:F7 l≠0):y= .returned (.tuple #[.int .i64 0,.bool false,dK E (F7 l)])∧Below w.heap.size w w':=by
 refine⟨?_,h.2⟩
 have hb:jU k m i l=F7 l:=by unfold jU;rw[if_neg he]
 rw[h.1,if_pos (by rw[hb];exact he),hb]
theorem beg_may (ha:jM k m i=true)(he:F7 l=0):jU k m i l=0:=by unfold jU;rw[if_pos he,if_pos ha]
theorem cmp_ok (h:Tg E k m i k' m' i' l w y w')(ha:jM k m i=true)(hb:jM k' m' i'=true)(he:F7 l=0){r:Option Nat}(hr:nQ (zq m.toNat i.toNat vZ l) (zq m'.toNat i'.toNat vZ l)=r):y= .returned (.tuple #[.int .i64 ((r.getD 0:Nat):Int),.bool r.isNone,.nilIface])∧Below w.heap.size w w':=by
 refine⟨?_,h.2⟩;rw[h.1,if_neg (by rw[beg_may ha he];decide),if_neg (by rw[beg_may hb he];decide),hr]
theorem end_ok (h:EndP E k m i l w y w')(ha:jM k m i=true)(he:F7 l=0):∃(A:Option Addr) (c:Nat) (P:PL),y= .returned (.tuple #[.slice A P.length c,.nilIface])∧w'.ownsRow w.heap.size 37 2 (.slice A P.length c) P.length (P.flatMap eu)∧lW P∧(∀x,uy P x=(kV m.toNat i.toNat vZ l).R x)∧Below w.heap.size w w':=by
 rcases h.1 with⟨h1,_⟩|⟨_,v,P,rfl,ho,ha,hg⟩
 ·exact absurd (beg_may ha he) h1
 ·obtain⟨A,c,rfl⟩:=bU ho;exact⟨A,c,P,rfl,ho,ha,hg,h.2⟩
theorem end_len {P:PL}(ha:lW P)(hg:∀x,uy P x=(kV M I vZ l).R x):P.length≤l.length:=by
 have:=II (L:=l.map fun o=>o.key.toNat) (IJ ha) (fun k hk=>by
  obtain⟨p,hp,rfl⟩:=List.mem_map.1 hk;have h1:=(qw ha).2 (show(p.1,p.2)∈P from hp);rw[hg]at h1;rcases EW (k:=p.1) (l:=l) (s:=vZ) (by rw[h1];rfl)with hz|⟨o,ho,_,h2⟩
  ·cases hz
  ·exact List.mem_map.2 ⟨o,ho,h2⟩)
 simpa using this
theorem mayE_le (l:List aV):F7 l≤16:=by
 unfold F7
 repeat' split
 all_goals decide
theorem cfg_64 (h:jM k m i=true):jM 64 m i=true:=by
 unfold jM zY at h⊢;simp at h⊢;exact h.2
theorem law_back (k m i k' m' i':Int){A:Option Addr}{c:Nat}(h:Reads w w.heap.size 5 A l.length (dR l))(hwf:∀o∈l,Dz o)(hE:Env w E w)(hEr:eB E w):
  Calls Tryz.prog 3 #[fZ k m i,fZ k' m' i',.slice A l.length c] w fun y w'=>y= .returned (.bool true)∧Below w.heap.size w w':=by
 have hup:∀V,Below w.heap.size w V→Reads V V.heap.size 5 A l.length (dR l):=fun V hb=>by
  have h2:=h.below hb
  exact⟨h2.1,fun hn=>by
   obtain⟨g,off,a,b,d⟩:=h2.2 hn
   exact⟨g,off,a,Nat.lt_of_lt_of_le b hb.size,d⟩⟩
 have HAl:=qd (fun(V:World) (hb:Below w.heap.size w V)=>law37_alive (hE.next hb) hEr);have HCk:=qd (fun(V:World) (k m i:Int) (hb:Below w.heap.size w V)=>AU k m i V (hE.next hb).errs);have HCm:=qd (fun(hn:l.length≤65536) (V:World) (k m i k' m' i':Int) (hb:Below w.heap.size w V)=>O1 (hE.next hb) hEr k m i k' m' i' (c:=c) (hup V hb) hn hwf);have bJ:=qd (fun(hn:l.length≤65536) (V:World) (k m i:Int) (hb:Below w.heap.size w V)=>twin_End (hE.next hb) hEr k m i (c:=c) (hup V hb) hn hwf);have HNm:=qd (fun(V:World) (j:Nat) (hj:j≤16) (hb:Below w.heap.size w V)=>abu (hEr.below hb (Nat.le_refl _)) j hj);clear hup hE hEr h hwf;unfold fZ at HCk HCm bJ⊢;go_in;go_upto_region 1 with fail;refine aZ (F:=fun V=>(aj V w.heap.size 23 #[.int .i64 k,.int .i64 m,.int .i64 i]∧aj V (w.heap.size+1) 23 #[.int .i64 k',.int .i64 m',.int .i64 i'])∧Below w.heap.size w V) ⟨⟨(aj.new w 23 #[.int .i64 k,.int .i64 m,.int .i64 i]).alloc _,(by have:=aj.new (w.alloc (.cells #[.int .i64 k,.int .i64 m,.int .i64 i] 23)) 23 #[.int .i64 k',.int .i64 m',.int .i64 i'];simpa using this)⟩,((Below.refl w.heap.size w).alloc (Nat.le_refl _) _).alloc (by simp) _⟩ ?_;rintro w1 ⟨⟨hX,hY⟩,hb1⟩;have HB1:=qd hb1;obtain⟨ba,hba⟩:∃ba,ba=w.heap.size:=⟨_,rfl⟩;obtain⟨bb,hbb⟩:∃bb,bb=w.heap.size+1:=⟨_,rfl⟩;rw[←hbb]at hY⊢;rw[←hba]at hX⊢
 have HXY:=qd (show∀V,Below w1.heap.size w1 V→(aj V ba 23 #[.int .i64 k,.int .i64 m,.int .i64 i]∧aj V bb 23 #[.int .i64 k',.int .i64 m',.int .i64 i'])from fun V hV=>⟨hX.below hV hX.lt,hY.below hV hY.lt⟩);have HLt:=qd (show ba<w1.heap.size from hX.lt);have HA1:=qd (HAl.out w1 hb1);clear hX hY hb1 hba hbb HAl;go_wp2_with fail;refine HA1.out.mono ?_;rintro y w2 ⟨rfl,hb2⟩;have HB2:=qd hb2;clear hb2 HA1;by_cases hlong:200<l.length
 ·have ac6:(200:Int)<(l.length:Int):=by omega
  go_wp2;go_ret;exact⟨rfl,HB1.out.trans (HB2.out.mono HB1.out.size)⟩
 have ac6:¬(200:Int)<(l.length:Int):=by omega
 have rV:=qd (show l.length≤65536 by omega);have HL0:=qd (show l.length≤200 by omega);clear hlong;obtain⟨hx,hy⟩:=HXY.out w2 HB2.out;have x0:=hx.cell 0;have x1:=hx.cell 1;have x2:=hx.cell 2;have y0:=hy.cell 0;have y1:=hy.cell 1;have y2:=hy.cell 2;simp only[gl]at x0 x1 x2 y0 y1 y2;have HK1:=qd (HCk.out w2 k m i (HB1.out.trans (HB2.out.mono HB1.out.size)));clear hx hy
 cases hca:jM k m i with
 |false=>
  rw[hca,if_neg (by decide),fI E (by decide)]at HK1;clear hca;go_wp2_with fail;refine HK1.out.mono ?_;rintro y w3 ⟨rfl,hb3⟩;have HB3:=qd (HB2.out.trans (hb3.mono HB2.out.size));clear hb3 HK1 HCk HCm bJ HNm;go_wp2;go_ret;exact⟨rfl,HB1.out.trans (HB3.out.mono HB1.out.size)⟩
 |true=>
  rw[hca,if_pos rfl]at HK1;have Vs:=qd hca;clear hca;go_wp2_with fail;refine HK1.out.mono ?_;rintro y w3 ⟨rfl,hb3⟩;have HB3:=qd (HB2.out.trans (hb3.mono HB2.out.size));replace x0:=aA hb3 x0;replace x1:=aA hb3 x1;replace x2:=aA hb3 x2;replace y0:=aA hb3 y0;replace y1:=aA hb3 y1;replace y2:=aA hb3 y2;clear hb3 HK1 HB2;have HK2:=qd (HCk.out w3 k' m' i' (HB1.out.trans (HB3.out.mono HB1.out.size)));clear HCk
  cases hcb:jM k' m' i' with
  |false=>
   rw[hcb,if_neg (by decide),fI E (by decide)]at HK2;clear hcb;go_wp2_with fail;refine HK2.out.mono ?_;rintro y w4 ⟨rfl,hb4⟩;have HB4:=qd (HB3.out.trans (hb4.mono HB3.out.size));clear hb4 HK2 HCm bJ HNm;go_wp2;go_ret;exact⟨rfl,HB1.out.trans (HB4.out.mono HB1.out.size)⟩
  |true=>
   rw[hcb,if_pos rfl]at HK2;have HCb:=qd hcb;clear hcb;go_wp2_with fail;refine HK2.out.mono ?_;rintro y w4 ⟨rfl,hb4⟩;have HB4:=qd (HB3.out.trans (hb4.mono HB3.out.size));replace x0:=aA hb4 x0;replace x1:=aA hb4 x1;replace x2:=aA hb4 x2;replace y0:=aA hb4 y0;replace y1:=aA hb4 y1;replace y2:=aA hb4 y2;clear hb4 HK2 HB3;have TT:=qd (HCm.out rV.out w4 k m i k' m' i' (HB1.out.trans (HB4.out.mono HB1.out.size)));go_wp2_with fail;refine TT.out.mono ?_;intro y w5 h5;have hb5:=h5.2;have H5:=qd h5;have KM:=qd (HB4.out.trans (hb5.mono HB4.out.size));replace x0:=aA hb5 x0;replace x1:=aA hb5 x1;replace x2:=aA hb5 x2;replace y0:=aA hb5 y0;replace y1:=aA hb5 y1;replace y2:=aA hb5 y2;have Nj:=qd (HCm.out rV.out w5 k' m' i' k m i (HB1.out.trans (KM.out.mono HB1.out.size)));clear h5 hb5 TT;by_cases hmay:F7 l=0
   ·obtain⟨r,hr⟩:∃r,nQ (zq m.toNat i.toNat vZ l) (zq m'.toNat i'.toNat vZ l)=r:=⟨_,rfl⟩;have HR:=qd (show nQ (zq m'.toNat i'.toNat vZ l) (zq m.toNat i.toNat vZ l)=r from by rw[cmpA_symm];exact hr);obtain⟨rfl,_⟩:=cmp_ok H5.out Vs.out HCb.out hmay hr;have HMy:=qd hmay;clear hr hmay H5;go_wp2_with fail;refine Nj.out.mono ?_;intro y w6 h6;obtain⟨rfl,hb6⟩:=cmp_ok h6 HCb.out Vs.out HMy.out HR.out;have KN:=qd (KM.out.trans (hb6.mono KM.out.size));replace x0:=aA hb6 x0;replace x1:=aA hb6 x1;replace x2:=aA hb6 x2;have Mt:=qd (HCm.out rV.out w6 k m i k m i (HB1.out.trans (KN.out.mono HB1.out.size)));clear h6 hb6 Nj KM HR y0 y1 y2 HCm;go_wp2_with fail;refine Mt.out.mono ?_;intro y w7 h7;obtain⟨rfl,UF⟩:=cmp_ok h7 Vs.out Vs.out HMy.out (cmpA_self _);have HB7:=qd (KN.out.trans (UF.mono KN.out.size));replace x0:=aA UF x0;replace x1:=aA UF x1;replace x2:=aA UF x2;clear h7 UF Mt KN;simp only[Option.getD_none,Option.isNone_none];go_upto_region 11 with fail;refine aZ (F:=fun V=>aj V w7.heap.size 23 #[.int .i64 k,.int .i64 m,.int .i64 i]∧Below w7.heap.size w7 V) ⟨aj.new w7 23 #[.int .i64 k,.int .i64 m,.int .i64 i],(Below.refl w7.heap.size w7).alloc (Nat.le_refl _) _⟩ ?_;rintro w8 ⟨hC8,qA⟩;obtain⟨cb,hcb⟩:∃cb,cb=w7.heap.size:=⟨_,rfl⟩;rw[←hcb]at hC8⊢;have HCc:=qd (show w1.heap.size≤cb from by rw[hcb];exact HB7.out.size);have HC8:=qd hC8;have f0:=hC8.frozen 0;have z0:=hC8.cell 0;simp only[gl]at z0;have HB8:=qd (HB7.out.trans (qA.mono HB7.out.size))
    clear hC8 qA hcb x0 x1 x2 HB7;go_upto_region 12 with fail;refine aZ (F:=fun V=>aj V cb 23 #[.int .i64 64,.int .i64 m,.int .i64 i]∧Below w1.heap.size w1 V) ⟨(by simpa using HC8.out.ak 0 (.int .i64 64)),HB8.out.setCell HCc.out _⟩ ?_;rintro w9 ⟨hC9,UG⟩;have HB9:=qd UG;have EM:=qd hC9;obtain⟨hx,_⟩:=HXY.out w9 UG;obtain⟨x0,x1,x2⟩:=hx.c3;have HN1:=qd (bJ.out rV.out w9 k m i (HB1.out.trans (UG.mono HB1.out.size)));clear hx hC9 UG HB8 HC8 f0 z0;go_wp2_with fail;refine HN1.out.mono ?_;intro y w10 h10;obtain⟨A1,c1,P,rfl,abP,hasc,hget,RQ⟩:=end_ok h10 Vs.out HMy.out;have HB10:=qd (HB9.out.trans (RQ.mono HB9.out.size));have HP:=qd (And.intro hasc hget);have HO:=qd abP;have hc10:=EM.out.below RQ EM.out.lt;clear x0 x1 x2;obtain⟨x0,x1,x2⟩:=hc10.c3;have HN2:=qd (bJ.out rV.out w10 64 m i (HB1.out.trans (HB10.out.mono HB1.out.size)));clear h10 abP hasc hget RQ hc10 HN1 HB9 EM bJ;go_wp2_with fail;refine HN2.out.mono ?_;intro y w11 h11;obtain⟨A2,c2,P2,rfl,abQ,hasc,hget,Nb⟩:=end_ok h11 (cfg_64 Vs.out) HMy.out
    obtain rfl:P2=P:=Zi hasc HP.out.1 fun x=>by rw[hget,HP.out.2]
    have HB11:=qd (HB1.out.trans ((HB10.out.trans (Nb.mono HB10.out.size)).mono HB1.out.size));have HR1:=qd (show∀V,Below w11.heap.size w11 V→Reads V V.heap.size 2 A1 P2.length (P2.flatMap eu)∧Reads V V.heap.size 2 A2 P2.length (P2.flatMap eu)from fun V hV=>⟨Reads.mG (own_below (own_below HO.out Nb (Nat.le_refl _)) hV (Nat.le_refl _)),Reads.mG (own_below abQ hV (Nat.le_refl _))⟩);have BI:=qd (Below.refl w11.heap.size w11);have jl:=qd (show P2.length≤1000000000 from Nat.le_trans (end_len hasc hget) (Nat.le_trans HL0.out (by decide)));clear h11 abQ hasc hget Nb HN2 HB10 HP HO x0 x1 x2;go_wp2;go_loopw [151] (fun v151 wr=>∃j:Nat,j≤P2.length∧v151=nI j∧Hid (Below w11.heap.size w11 wr)) (fun v151 _=>P2.length-(intOf v151).toNat)
    case atStart=>exact⟨0,by omega,rfl,BI⟩
    case round=>
     clear BI;obtain⟨j,hj,rfl,BI⟩:=hrel;by_cases hlt:j<P2.length
     ·have hlt':(j:Int)<(P2.length:Int):=by omega
      have hj0:(0:Int)≤(j:Int):=by omega
      have hwj:IntKind.i64.wrap ((j:Int)+1)=((j+1:Nat):Int):=by have:=jl.out;rw[IntKind.wrap_i64];omega
      obtain⟨q,hq⟩:∃q,P2[j]?=some q:=⟨_,List.getElem?_eq_getElem hlt⟩;obtain⟨hr1,hr2⟩:=HR1.out wr BI.out;obtain⟨g1,o1,hA1,_,hc1⟩:=hr1.2 (by omega);obtain⟨g2,o2,hA2,_,hc2⟩:=hr2.2 (by omega);have r0:wr.cell? ⟨g1,o1+j*2,none⟩=some (nU q.1):=hc1 (j*2+0) _ (kM hq (by omega));have r1:wr.cell? ⟨g1,o1+j*2+1,none⟩=some (nU q.2):=hc1 (j*2+1) _ (kM hq (by omega));have s0:wr.cell? ⟨g2,o2+j*2,none⟩=some (nU q.1):=hc2 (j*2+0) _ (kM hq (by omega));have s1:wr.cell? ⟨g2,o2+j*2+1,none⟩=some (nU q.2):=hc2 (j*2+1) _ (kM hq (by omega));subst hA1;subst hA2;clear hc1 hc2 hr1 hr2 hq;go_upto_region 19 with fail;refine aZ (F:=fun v=>aj v wr.heap.size 37 #[nU q.1,nU q.2]∧Below wr.heap.size wr v) ⟨aj.new wr 37 #[nU q.1,nU q.2],(Below.refl wr.heap.size wr).alloc (Nat.le_refl _) _⟩ ?_;rintro w12 ⟨hB12,hb12⟩;obtain⟨bx,hbx⟩:∃bx,bx=wr.heap.size:=⟨_,rfl⟩;rw[←hbx]at hB12⊢;obtain⟨x0,x1⟩:=hB12.c2;have y0:=aA hb12 s0;have y1:=aA hb12 s1;have HB12:=qd (BI.out.trans (hb12.mono BI.out.size));have HM:=qd (show P2.length-(j+1)<P2.length-j by omega);clear hB12 hb12 hbx r0 r1 s0 s1 BI;go_quiet (fail);go_wp2;go_roundw
      case measure=>simp[intOf];exact HM.out
      exact⟨j+1,by omega,rfl,qd (below_drewN HB12.out _)⟩
     ·obtain rfl:j=P2.length:=by omega
      have hlt':¬(P2.length:Int)<(P2.length:Int):=by omega
      go_wp2;go_ret;exact⟨rfl,HB11.out.trans (BI.out.mono HB11.out.size)⟩
   ·obtain⟨e,he⟩:∃e,e=F7 l:=⟨_,rfl⟩;have Ob:=qd (show F7 l=e∧e≠0∧e≤16 from⟨he.symm,by rw[he];exact hmay,by rw[he];exact mayE_le l⟩);obtain⟨rfl,_⟩:=cmp_bad H5.out Vs.out hmay;rw[←he,fI E (by have:=Ob.out.2.1;omega)];have BM:=qd (fun V hV=>HNm.out V e Ob.out.2.2 hV);rw[fI E (by have:=Ob.out.2.1;omega)]at BM;clear hmay he H5;go_wp2_with fail;refine Nj.out.mono ?_;intro y w6 h6;obtain⟨rfl,hb6⟩:=cmp_bad h6 HCb.out (by rw[Ob.out.1];exact Ob.out.2.1);rw[Ob.out.1,fI E (by have:=Ob.out.2.1;omega)];have KN:=qd (KM.out.trans (hb6.mono KM.out.size));replace x0:=aA hb6 x0;replace x1:=aA hb6 x1;replace x2:=aA hb6 x2;have Mt:=qd (HCm.out rV.out w6 k m i k m i (HB1.out.trans (KN.out.mono HB1.out.size)));clear h6 hb6 Nj KM y0 y1 y2 HCm;go_wp2_with fail;refine Mt.out.mono ?_;intro y w7 h7;obtain⟨rfl,UF⟩:=cmp_bad h7 Vs.out (by rw[Ob.out.1];exact Ob.out.2.1);rw[Ob.out.1,fI E (by have:=Ob.out.2.1;omega)];have HB7:=qd (HB1.out.trans ((KN.out.trans (UF.mono KN.out.size)).mono HB1.out.size));clear h7 UF Mt KN x0 x1 x2 bJ HNm;go_wp2_with fail;refine(BM.out w7 HB7.out).mono ?_;rintro y w8 ⟨rfl,qA⟩;have HB8:=qd (HB7.out.trans (qA.mono HB7.out.size));clear qA;go_wp2_with fail;refine(BM.out w8 HB8.out).mono ?_;rintro y w9 ⟨rfl,UG⟩;have HB9:=qd (HB8.out.trans (UG.mono HB8.out.size));clear UG;go_wp2_with fail;refine(BM.out w9 HB9.out).mono ?_;rintro y w10 ⟨rfl,RQ⟩;have HB10:=qd (HB9.out.trans (RQ.mono HB9.out.size));clear RQ;go_wp2_with fail;refine(BM.out w10 HB10.out).mono ?_;rintro y w11 ⟨rfl,Nb⟩
    have HB11:=qd (HB10.out.trans (Nb.mono HB10.out.size));clear Nb;go_wp2;go_ret;exact⟨rfl,HB11.out⟩
end
section
variable {s : ChangeSpec} {again apart fresh handsOn : Bool} {P : Program} {W : World}
section
variable {H : Type} {enc : TypeId × Value → H}
theorem returnsLaid {a:Assume}{C:Checked}{os:Os}{f:FuncId}{fn:Func}{conds:List PathCond}{X:World→Array Value→Prop}(hX:∀(w w':World) (args:Array Value),w.heap=w'.heap→X w args→X w' args)(own:ownKnob C.prog.godebug=none)(started:os.Started)(noInit:C.prog.inits.idxOf? f=none)(hfn:C.prog.funcs[f]?=some fn)(witness:∃(w:World) (tape:Tape) (i:Input),w.os=os∧(w.forCall tape i).Shaped C.prog∧i.vars=[]∧Input.okWide C.prog (w.forCall tape i) .any w.heap.size f i∧
   ((s.pre enc C.prog fn conds apart (w.forCall tape i).memory i.args∧X (w.forCall tape i).memory i.args)∧sizedMet enc C.prog fn (OpenSpec.ofChange s) apart (w.forCall tape i).memory i.args)∧a.holds C.prog (lone (Frame.enter C.prog f i.args .normal) [] (w.forCall tape i))) (contract:∀(W:World) (base:Nat) (args:Array Value) (ds gs:List (DataW H)) (before:List MemPlace),
   (∀(j:Nat) t v,fn.params[j]?=some t→args[j]?=some v→Value.okWide C.prog W .any base t v)→
   DataW.Whole enc C.prog fn.params.toList s.vars apart W args.toList ds gs before→
   (DataW.weightsEach C.prog (fn.params.toList++s.plain.varTypes C.prog) (ds++gs)).all (·≤reachBytes)=true→X W args→W.ShapedOpen C.prog→
   Calls C.prog f args W fun e W'=>∃v,e= .returned v∧s.post enc C.prog fn apart fresh handsOn again W args v W'):
  ReturnsInHanded a C os f .any (fun w args=>(s.pre enc C.prog fn conds apart w args∧X w args)∧sizedMet enc C.prog fn (OpenSpec.ofChange s) apart w args) (s.post enc C.prog fn apart fresh handsOn again):=by
 refine returnsInHanded_of_calls own started noInit witness ?_;intro w tape i _ hsh _ hok hpre hholds;obtain⟨_,_,_,fn',hfn',_,_,_,_,hval⟩:=hok;have e:fn'=fn:=Option.some.inj (hfn'.symm.trans hfn);subst e;obtain⟨⟨⟨ds,gs,before,hw,hc⟩,hx⟩,hz⟩:=hpre;have hw':=DataW.Whole.of_heap (w':=w.forCall tape i) (by rfl) hw;refine(contract (w.forCall tape i) w.heap.size i.args ds gs before hval hw' (hz.weights hw) (hX _ _ _ (by rfl) hx) hsh).mono fun e W' ⟨v,he,hp⟩=> ?_;subst he;exact ChangeSpec.post_blind hp
theorem post_of_below {f:Func}{W':World}{args:Array Value}{v:Value}{ds gs:List (DataW H)}{before pa pv:List MemPlace}(hW:DataW.Whole enc P f.params.toList s.vars apart W args.toList ds gs before)(hres:∀(b:Nat) (sp:Nat→Bool) (hd:Bool),DataW.TrodAll enc P W' b sp hd f.resultTypes.toList (v.resultList f.resultTypes.size) (s.fn H (ds++gs)).results [])(hargs:∀sp:Nat→Bool,(∀p∈before,sp p.block=true)→DataW.TrodAll enc P W' 0 sp true f.params.toList args.toList (s.fn H (ds++gs)).args pa)(hvars:∀sp:Nat→Bool,(∀p∈before,sp p.block=true)→DataW.TrodVars enc P W' sp s.vars (s.fn H (ds++gs)).vars pv)(hps:before=pa++pv)(hb:Below W.heap.size W W')(hok:∀(j:Nat) (t:TypeId) (r:Value),f.resultTypes[j]?=some t→(v.resultList f.resultTypes.size)[j]?=some r→Value.okWide P W' .any 0 t r):
  s.post enc P f apart fresh handsOn again W args v W':=by
 have hlt:∀p∈before,p.block<W.heap.size:=fun p hp=>hW.lt p hp
 have hold:∀p∈before,(fun b=>decide (b<W.heap.size)) p.block=true:=fun p hp=>by simpa using hlt p hp
 refine⟨ds,gs,before,[],pa,pv,hW,hres _ _ _,hargs _ hold,hvars _ hold,World.keptBut_mono (fun p hp=>⟨hp, ?_⟩) (hb.frame (·∈before)),fun _=> ?_⟩
 ·rw[hps,List.mem_append]at hp;exact Or.inr hp
 ·obtain⟨_,_,_,_,_,hz,hn⟩:=hW;refine⟨hok,_,_,([]++pa)++pv,⟨[]++pa,pv,trodAll_append (hargs _ (fun _ _=>rfl)) (hres _ _ _),hvars _ (fun _ _=>rfl),rfl, ?_, ?_⟩, ?_⟩
  ·intro b off hp
   have hin:MemPlace.cell b off∈before:=by rw[hps];simpa using hp
   rw[hb.frozen (hlt _ hin)];exact hz b off hin
  ·intro ha;have:=hn ha;rw[hps]at this;simpa using this
  ·intro p hp _;rw[hps];simpa using hp
end
def errD (text:List UInt8):DataW Unit:= .iface "*errors.errorString" (.ptr (.agg [.lit (.string text)]))
theorem laid_parts:∀(l:List (String×DataW Unit)) (ps:List MemPlace),DataW.LaidVars P W l ps→
  ∃pl:List (List MemPlace),ps=pl.flatten∧pl.length=l.length∧∀(i:Nat) (n:String) (d:DataW Unit),l[i]?=some (n,d)→
   ∃g t cs fuel p,P.globalNamed n=some g∧(P.globals[g]?).map (·.type)=some t∧W.var? P n=some cs∧DataW.trod (fun _=>()) P W 0 (fun _=>true) false fuel t cs.toList=some (d,p)∧
    pl[i]?=some (MemPlace.row ⟨g,0,none⟩ cs.size++p)
 | [],ps,h=>⟨[],by simpa[DataW.LaidVars]using h,rfl,fun i n d hi=>by simp at hi⟩
 |(n,d)::r,ps,h=>by
  obtain⟨g,t,cs,fuel,p,q,h1,h2,h3,h4,h5,rfl⟩:=h;obtain⟨pl,e1,e2,e3⟩:=laid_parts r q h5;refine⟨(MemPlace.row ⟨g,0,none⟩ cs.size++p)::pl,by rw[List.flatten_cons,←e1],by simp[e2],fun i n' d' hi=> ?_⟩
  cases i with
  |zero=>
   simp only[List.getElem?_cons_zero,Option.some.injEq,Prod.mk.injEq]at hi;obtain⟨rfl,rfl⟩:=hi;exact⟨g,t,cs,fuel,p,h1,h2,h3,h4,rfl⟩
  |succ i=>exact e3 i n' d' (by simpa using hi)
theorem star: "*" ++ "errors.errorString" = "*errors.errorString" :=by decide
theorem typeName_err (u:TypeId)(h:Tryz.prog.typeName? 3 u=some "*errors.errorString"):u=318 :=
 typeName_ptr_named (nm:= "errors.errorString") (by rw[star];kernel_rfl) (by kernel_rfl) (by decide) u (by rw[star];exact h)
theorem flatten_apart {α:Type}:∀(pl:List (List α)),pl.flatten.Nodup→∀(i j:Nat) (p q:List α) (x:α),i<j→pl[i]?=some p→pl[j]?=some q→x∈p→x∈q→False
 | [],_,i,j,p,q,x,_,h,_,_,_=>by simp at h
 |r::pl,hn,i,j,p,q,x,hij,hi,hj,hp,hq=>by
  rw[List.flatten_cons,List.nodup_append]at hn;obtain⟨j,rfl⟩:∃j',j=j'+1:=⟨j-1,by omega⟩;rw[List.getElem?_cons_succ]at hj
  cases i with
  |zero=>
   simp only[List.getElem?_cons_zero,Option.some.injEq]at hi;subst hi;exact hn.2.2 x hp x (List.mem_flatten.2 ⟨q,List.mem_of_getElem? hj,hq⟩) rfl
  |succ i=>
   rw[List.getElem?_cons_succ]at hi;exact flatten_apart pl hn.2.1 i j p q x (by omega) hi hj hp hq
theorem errsIn_of_laid {l:List (String×DataW Unit)}(h:laidMet Tryz.prog l W)(p:Nat)(hpos:∀k,k<16→∃n text,l[p+k]?=some (n,errD text)∧Tryz.prog.globalNamed n=some (gE (k+1))∧(Tryz.prog.globals[gE (k+1)]?).map (·.type)=some 27):∃E,eB E W:=by
 obtain⟨ps,hv,hnd,hrows⟩:=h;obtain⟨pl,e1,e2,e3⟩:=laid_parts l ps hv
 have H:∀k,1≤k∧k≤16→∃(a:Addr),W.cell? ⟨gE k,0,none⟩=some (.iface 318 (.pointer (some a)))∧(∃c t,W.heap[a.block]?=some (.cells c t (0,0)))∧∃q,pl[p+(k-1)]?=some q∧MemPlace.cell a.block a.off∈q:=by
  rintro k ⟨hk1,hk2⟩;obtain⟨n,text,hl,hg,ht⟩:=hpos (k-1) (by omega);rw[show k-1+1=k by omega]at hg ht;obtain⟨g,t,cs,fuel,p',h1,h2,h3,h4,h5⟩:=e3 _ _ _ hl;obtain rfl:=Option.some.inj (hg.symm.trans h1);obtain rfl:=Option.some.inj (ht.symm.trans h2)
  have hmem:∀x∈MemPlace.row ⟨gE k,0,none⟩ cs.size++p',x∈ps:=by
   intro x hx;rw[e1];exact List.mem_flatten.2 ⟨_,List.mem_of_getElem? h5,hx⟩
  obtain⟨l0⟩:=cs
  have ok0:∀u v,l0=[.iface u v]→Value.okWide Tryz.prog W .any 0 u v:=fun u v e=>by
   subst e;exact(hrows (gE k) 0 (hmem _ (by simp[MemPlace.row]))).2 u v (by simpa using World.var?_cell hg h3 0)
  obtain⟨a0,s0,rfl,hc0,hs0,hz0,rfl⟩:=errorString_of_trod Tryz.underlying27 typeName_err Tryz.underlying318 Tryz.underlying358 rfl rfl Tryz.underlying9 (by kernel_rfl) (by kernel_rfl) h4 ok0;refine⟨a0,by simpa using World.var?_cell hg h3 0,(hrows a0.block a0.off (hmem _ (by simp[MemPlace.row]))).1,_,h5, ?_⟩;simp[MemPlace.row]
 refine⟨fun k=>if h:1≤k∧k≤16 then Classical.choose (H k h)else default,⟨fun k h1 h2=> ?_,fun k h1 h2=> ?_,fun j k h1 h2 h3 h4 e=> ?_⟩⟩
 ·have hk:1≤k∧k≤16:=⟨h1,h2⟩;simp only[hk,and_self,dif_pos];exact(Classical.choose_spec (H k hk)).1
 ·have hk:1≤k∧k≤16:=⟨h1,h2⟩;simp only[hk,and_self,dif_pos];exact(Classical.choose_spec (H k hk)).2.1
 ·have hj:1≤j∧j≤16:=⟨h1,h2⟩;have hk:1≤k∧k≤16:=⟨h3,h4⟩;simp only[hk,hj,and_self,dif_pos]at e;obtain⟨q1,hq1,hx1⟩:=(Classical.choose_spec (H j hj)).2.2;obtain⟨q2,hq2,hx2⟩:=(Classical.choose_spec (H k hk)).2.2;rw[e]at hx1;rw[e1]at hnd;rcases Nat.lt_trichotomy (p+(j-1)) (p+(k-1))with hlt|heq|hgt
  ·exact(flatten_apart pl hnd _ _ _ _ _ hlt hq1 hq2 hx1 hx2).elim
  ·omega
  ·exact(flatten_apart pl hnd _ _ _ _ _ hgt hq2 hq1 hx2 hx1).elim
end
def pickE (W:World)(k:Nat):Addr:=match W.cell? ⟨gE k,0,none⟩with
 |some (.iface _ (.pointer (some a)))=>a
 |_=>default
section
variable {cs : List Value} {v : Value} {p : List MemPlace}
def db64:List Int:=[0,1,56,2,57,49,28,3,61,58,42,50,38,29,17,4,62,47,59,36,45,43,51,22,53,39,33,30,24,18,12,5,63,55,48,27,60,41,37,16,46,35,44,21,52,32,23,11,54,26,40,15,34,20,31,10,25,14,19,9,13,8,7,6]
section
variable {H : Type} {enc : TypeId × Value → H} {w : World} {base : Nat} {spare : Nat → Bool} {held : Bool} {fuel : Nat}
theorem wf_i64_of {n:Int}(h:(Lit.int .i64 n).wf=true): -9223372036854775808≤n∧n<9223372036854775808:=by have:=Go.bounds_i64 h;omega
theorem wf_u64_of {n:Int}(h:(Lit.int .u64 n).wf=true):0≤n∧n<18446744073709551616:=by have:=Go.bounds_u64 h;omega
theorem op_trod {x:DataW H×List MemPlace}(h:DataW.trod enc Tryz.prog w base spare held fuel 40 cs=some x):∃o:aV,cs=Ah o∧Dz o:=by
 obtain⟨xs,m,rfl,rfl,hl,hxs,hf⟩:=DataW.trod_struct Tryz.underlying40 h
 have hc1:Tryz.prog.cellsOf 3 =1:=by kernel_rfl
 have hc2:Tryz.prog.cellsOf 35 =1:=by kernel_rfl
 have ZB:Tryz.prog.cellsOf 40 =5:=by kernel_rfl
 rw[ZB]at hl;have hx5:xs.length=5:=hxs;have f0:DataW.trod enc Tryz.prog w base spare held m 3 ((cs.drop 0).take (Tryz.prog.cellsOf 3))=xs[0]?:=hf 0 _ rfl;have f1:DataW.trod enc Tryz.prog w base spare held m 35 ((cs.drop 1).take (Tryz.prog.cellsOf 35))=xs[1]?:=hf 1 _ rfl;have f2:DataW.trod enc Tryz.prog w base spare held m 35 ((cs.drop 2).take (Tryz.prog.cellsOf 35))=xs[2]?:=hf 2 _ rfl;have f3:DataW.trod enc Tryz.prog w base spare held m 35 ((cs.drop 3).take (Tryz.prog.cellsOf 35))=xs[3]?:=hf 3 _ rfl;have f4:DataW.trod enc Tryz.prog w base spare held m 3 ((cs.drop 4).take (Tryz.prog.cellsOf 3))=xs[4]?:=hf 4 _ rfl;rw[hc1]at f0 f4;rw[hc2]at f1 f2 f3;rw[List.getElem?_eq_getElem (by omega)]at f0 f1 f2 f3 f4;obtain⟨n0,q0,_,w0⟩:=DataW.trod_int Tryz.underlying3 f0;obtain⟨n1,q1,_,w1⟩:=DataW.trod_int Tryz.underlying35 f1;obtain⟨n2,q2,_,w2⟩:=DataW.trod_int Tryz.underlying35 f2;obtain⟨n3,q3,_,w3⟩:=DataW.trod_int Tryz.underlying35 f3;obtain⟨n4,q4,_,w4⟩:=DataW.trod_int Tryz.underlying3 f4;obtain⟨y0,y1⟩:=wf_i64_of w0;obtain⟨y2,y3⟩:=wf_u64_of w1;obtain⟨y4,y5⟩:=wf_u64_of w2;obtain⟨y6,y7⟩:=wf_u64_of w3;obtain⟨y8,y9⟩:=wf_i64_of w4
 have hw:Dz ⟨n0,n1,n2,n3,n4⟩:=by unfold Dz;exact⟨y0,y1,y2,y3,y4,y5,y6,y7,y8,y9⟩
 refine⟨⟨n0,n1,n2,n3,n4⟩, ?_,hw⟩
 match cs,hl with
 | [a,b,c,d,e],_=>
  simp at q0 q1 q2 q3 q4;simp[Ah,q0,q1,q2,q3,q4]
theorem opsCells_at {O:Nat→aV}{n:Nat}:∀{i:Nat},i<n→∀j,j<5→(dR ((List.range n).map O))[i*5+j]?=(Ah (O i))[j]?:=by
 intro i hi j hj;obtain⟨o0,o1,o2,o3,o4⟩:=Dy ((List.range n).map O) i (O i) (by simp[hi])
 match j,hj with
 |0,_=>exact o0
 |1,_=>exact o1
 |2,_=>exact o2
 |3,_=>exact o3
 |4,_=>exact o4
instance :Inhabited aV:=⟨⟨0,0,0,0,0⟩⟩
theorem open_ops {d:DataW H}(ho:Value.okWide Tryz.prog w .any base 24 v)(h:DataW.Trod enc Tryz.prog w 0 (fun _=>true) true 24 v d p):
  ∃A n c l,v= .slice A n c∧n≤c∧Reads w w.heap.size 5 A n (dR l)∧∀o∈l,Dz o:=by
 obtain⟨a0,len0,cap0,rfl⟩:=okWide_slice Tryz.underlying24 ho;obtain⟨fuel,hf⟩:=h
 have ZB:Tryz.prog.cellsOf 40 =5:=by kernel_rfl
 rcases open_slice Tryz.underlying24 hf with⟨hcs,_⟩|⟨a,len,cap,m,k,D,Pl,hcs,_,hl,_,hm,_,hx⟩
 ·simp[Value.cells]at hcs;obtain⟨rfl,rfl,rfl⟩:=hcs;refine⟨none,0,0,[],rfl,Nat.le_refl _, ?_,fun _ h=>absurd h List.not_mem_nil⟩;exact Reads.none_
 ·simp[Value.cells]at hcs;obtain⟨rfl,rfl,rfl⟩:=hcs;simp only[if_true]at hm;rw[ZB]at hx
  obtain⟨O,hO⟩:=choose_lt (α:=aV) (n:=len0) (p:=fun i o=>Dz o∧∀j,j<5→w.cell? ((a.add (i*5)).add j)=(Ah o)[j]?) (fun i hi=>by
   obtain⟨cs',h1,h2⟩:=hx i (by omega);obtain⟨_,_,hcell⟩:=World.cells?_some h1;obtain⟨o,rfl,hw⟩:=op_trod h2
   exact⟨o,hw,hcell⟩)
  refine⟨some a,len0,cap0,(List.range len0).map O,rfl,hl,⟨by rw[jP];simp,fun hn=> ?_⟩,fun o ho=> ?_⟩
  ·obtain⟨b,off,spot⟩:=a;have h00:=(hO 0 (by omega)).2 0 (by omega)
   have hspot:spot=none:=by simpa[Addr.add]using World.cell?_spot (h00.trans rfl)
   subst hspot;refine⟨b,off,rfl,by simpa[Addr.add]using World.block_lt_of_cell? w _ (h00.trans rfl),fun j u hu=> ?_⟩
   have hj:j<len0*5:=by have:=(List.getElem?_eq_some_iff.1 hu).1;rw[jP]at this;simpa using this
   have h1:=(hO (j/5) (by omega)).2 (j % 5) (by omega);rw[←opsCells_at (n:=len0) (by omega) _ (by omega),show j/5*5+j % 5=j by omega,hu]at h1;rw[add_plain,add_plain,show off+j/5*5+j % 5=off+j by omega]at h1;exact h1
  ·obtain⟨i,hi,rfl⟩:=List.mem_map.1 ho;exact(hO i (by simpa using hi)).1
theorem cfg_trod {x:DataW H×List MemPlace}(h:DataW.trod enc Tryz.prog w base spare held fuel 23 cs=some x):∃a b c:Int,cs=[.int .i64 a,.int .i64 b,.int .i64 c]:=by
 obtain⟨xs,m,rfl,rfl,hl,hxs,hf⟩:=DataW.trod_struct Tryz.underlying23 h
 have hc1:Tryz.prog.cellsOf 3 =1:=by kernel_rfl
 have hc3:Tryz.prog.cellsOf 23 =3:=by kernel_rfl
 rw[hc3]at hl;have hx3:xs.length=3:=hxs;have f0:DataW.trod enc Tryz.prog w base spare held m 3 ((cs.drop 0).take (Tryz.prog.cellsOf 3))=xs[0]?:=hf 0 _ rfl;have f1:DataW.trod enc Tryz.prog w base spare held m 3 ((cs.drop 1).take (Tryz.prog.cellsOf 3))=xs[1]?:=hf 1 _ rfl;have f2:DataW.trod enc Tryz.prog w base spare held m 3 ((cs.drop 2).take (Tryz.prog.cellsOf 3))=xs[2]?:=hf 2 _ rfl;rw[hc1]at f0 f1 f2;rw[List.getElem?_eq_getElem (by omega)]at f0 f1 f2;obtain⟨n0,q0,_,w0⟩:=DataW.trod_int Tryz.underlying3 f0;obtain⟨n1,q1,_,w1⟩:=DataW.trod_int Tryz.underlying3 f1;obtain⟨n2,q2,_,w2⟩:=DataW.trod_int Tryz.underlying3 f2;refine⟨n0,n1,n2, ?_⟩
 match cs,hl with
 | [a,b,c],_=>
  simp at q0 q1 q2;simp[q0,q1,q2]
theorem open_cfg {r:Reach}{b0:Nat}{d:DataW H}(hv:Value.okWide Tryz.prog w r b0 23 v)(h:DataW.Trod enc Tryz.prog w base spare held 23 v d p):∃k m i:Int,v= .agg #[.int .i64 k,.int .i64 m,.int .i64 i]:=by
 obtain⟨cs,rfl,hsz⟩:=okWide_struct Tryz.underlying23 hv;obtain⟨fuel,hf⟩:=h;obtain⟨a,b,c,hc⟩:=cfg_trod (cs:=cs.toList) hf;refine⟨a,b,c, ?_⟩;congr 1;apply Array.toList_inj.1;rw[hc]
end
end
end Go.Proofs.YtkkibocdfijnhaaGreatDoor
