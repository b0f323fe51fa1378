/- The number of an error of package api (amblernum.Num). -/
import Derived.Test.YtkddpchpcepjgaaGreatDoorMayR
namespace Go.Proofs.YtkddpchpcepjgaaGreatDoor
set_option maxRecDepth 100000
set_option maxHeartbeats 8000000
open Go.RowKit cu uq J8
section
variable {E : Nat -> Addr} {w : World}
theorem Rp (E:Nat->Addr)(k:Nat)(h:k<16):(rF E)[k]?=some (.iface 333 (.pointer (some (E (k+1))))):=by
 unfold rF;rw[Q3,List.getElem?_range h];rfl
theorem adN (h:eU E w)(j:Nat)(h1:1<=j)(h2:j<=16):
  Calls Tryz.prog 14 #[.iface 333 (.pointer (some (E j)))] w λe w'=>e= .returned (.int .i64 j)/\Below w.heap.size w w':=by
 have hS:=h.alloc (.cells (rF E).toArray 29);have hcells:=aj.new w 29 (rF E).toArray;have hB:Below w.heap.size w (w.alloc (.cells (rF E).toArray 29)):=(Below.refl _ _).alloc (zb _) _;go_in;go_wp2_with (go_at_call 32;refine(acW h).mono ?_;rintro e w1 ⟨rfl,rfl⟩);obtain⟨W,hW⟩:∃W,W=w.alloc (.cells (rF E).toArray 29):=⟨_,rfl⟩;rw[<-hW]at hS hcells hB|-;clear hW;go_loop [3,4,9] (λ_ _ i=>∃k:Nat,k<j/\i= .int .i64 k) (λ_ _ i=>16-(intOf i).toNat)
 case atStart=>exact⟨0,by omega,rfl⟩
 case round=>
  obtain⟨k,hk,rfl⟩:=hrel
  have hc:W.cell? ⟨w.heap.size,k,none⟩=some (.iface 333 (.pointer (some (E (k+1))))):=by rw[hcells.cell k,zr];exact Rp E k (by omega)
  have hi:=acV hS j (k+1) h1 h2 (by omega) (by omega);by_cases hjk:j=k+1
  ·have hb:(j==k+1)=true:=by simp[hjk]
   rw[hb]at hi;have Hjk:=qd hjk;clear hjk hb;go_wp2_with (go_at_call 33;refine hi.mono ?_;rintro e w1 ⟨rfl,rfl⟩);go_ret;exact⟨iE (by have:=Hjk.o;omega),hB⟩
  ·have hb:(j==k+1)=false:=by simp[hjk]
   rw[hb]at hi;clear hb;go_wp2_with (go_at_call 33;refine hi.mono ?_;rintro e w1 ⟨rfl,rfl⟩);go_round
   case rel=>exact⟨k+1,by omega,by go_num⟩
   case measure=>simp[intOf];omega
theorem adO (h:eU E w)(j:Nat)(h2:j<=16):
  Calls Tryz.prog 14 #[eT E j] w λe w'=>e= .returned (.int .i64 j)/\Below w.heap.size w w':=by
 by_cases h0:j=0
 ·subst h0;exact(Sw w).mono λe w' ⟨he,hw⟩=>⟨he,hw▸Below.refl _ _⟩
 ·rw[gH E (by omega)];exact adN h j (by omega) h2
end
section
variable {w : World} {c n : Nat} {A : Option Addr} {l : List aB}
theorem Zf (w:World)(base:Nat)(e:TypeId)(size:Nat)(hb:base<=w.heap.size):(w.alloc (.cells #[] e)).ownsRow base e size (.slice (some ⟨w.heap.size,0,none⟩) 0 0) 0 []:=
 World.ownsRow_made w #[] 0 hb (by simp[maxLen]) (by simp)
theorem abW {b e size:Nat}{xs:List Value}(h:w.ownsRow b e size (.slice A n c) n xs):n<=c:=by
 rcases h.2 with⟨hv,h0⟩|⟨g,cap,cur,hv,r⟩
 ·omega
 ·injection hv with _ _ hc
  have:=r.2.2.1;omega
theorem Zg:(Tryz.prog.info? 47).map (λi=>(i.zero,i.size,i.bytes))=some (some (.agg #[.int .i64 0,.int .u64 0,.int .u64 0,.int .u64 0,.int .i64 0]),5,40):=by kernel_rfl
theorem Zh:sZ Tryz.prog 46 47 5 40:=BO Tryz.underlying46 Zg rfl (by decide) (by decide)
theorem Zi (h:Reads w w.heap.size 5 A n (aQ l))(hn:n<=65536)(hcap:n<=c):
  Calls Tryz.prog 13 #[.slice A n c] w λy w'=>y= .returned (.int .i64 (kC l:Int))/\Below w.heap.size w w':=by
 have hl:l.length=n:=by have:=h.1;rw[dZ]at this;omega
 have hup:∀V,Below w.heap.size w V->Reads V V.heap.size 5 A n (aQ l):=λV hb=>by
  have h2:=h.below hb
  exact⟨h2.1,λhn=>by
   obtain⟨g,off,a,b,d⟩:=h2.2 hn
   exact⟨g,off,a,yp b hb.size,d⟩⟩
 have Na:=qd hup;have HL:=qd (And.intro hl (And.intro hn hcap));clear hl hup hcap h;go_in;by_cases hlong:2000<n
 ·have zy:(2000:Int)<(n:Int):=by omega
  have HM:=qd (show kC l=9 from by unfold kC;rw[if_pos (by rw[HL.o.1];exact hlong)]);go_wp2;go_ret;exact⟨by rw[HM.o];rfl,Below.refl _ _⟩
 have zy:¬(2000:Int)<(n:Int):=by omega
 have Q5:=qd (show¬2000<l.length from by rw[HL.o.1];exact hlong);clear hlong;go_wp2;go_loopw [10] (λv10 wr=>∃j:Nat,j<=n/\v10=nI j/\Hqq ((l.take j).any (λo=> !fU o)=false)/\Hqq (Below w.heap.size w wr)) (λv10 _=>n-(intOf v10).toNat)
 case atStart=>exact⟨0,by omega,rfl,qd (by simp),qd (Below.refl _ _)⟩
 case round=>
  obtain⟨j,hj,rfl,HA,HB⟩:=hrel;by_cases hlt:j<n
  ·have ho:l[j]?=some (l[j]'(by rw[HL.o.1];omega)):=zg _;generalize l[j]'(by rw[HL.o.1];omega)=o at ho;obtain⟨b,off,rfl,hb,c0,c1,c2,c3,c4⟩:=jE (Na.o wr HB.o) ho
   have hlt':(j:Int)<(n:Int):=by omega
   have hj0:(0:Int)<=(j:Int):=by omega
   have TT:IntKind.i64.wrap ((j:Int)+1)=((j+1:Nat):Int):=by rw[ZZ];omega
   have HT:=qd (And.intro (iy ho) (zE ho));have HM:=qd (show n-(j+1)<n-j by omega);clear ho hb;go_upto_region 6 with fail;refine aY (F:=λv=>aj v wr.heap.size 47 #[.int .i64 o.kind,.int .u64 o.key,.int .u64 o.val,.int .u64 o.hash,.int .i64 o.iter]/\Below wr.heap.size wr v) ⟨aj.new wr 47 #[.int .i64 o.kind,.int .u64 o.key,.int .u64 o.val,.int .u64 o.hash,.int .i64 o.iter],(Below.refl wr.heap.size wr).alloc (zb _) _⟩ ?_;rintro w2 ⟨hX2,hb2⟩;obtain⟨xb,hxb⟩:∃xb,xb=wr.heap.size:=⟨_,rfl⟩;rw[<-hxb]at hX2|-;obtain⟨x0,x1,x2,x3,x4⟩:=hX2.c5;have HB2:=qd (HB.o.trans (hb2.mono HB.o.size));have hr:=Si o w2;unfold oq at hr;have HR:=qd hr;clear hX2 hb2 hxb hr c0 c1 c2 c3 c4 HB;go_wp2_with fail;refine HR.o.mono ?_;rintro y w3 ⟨rfl,h3⟩;have HB3:=qd (show Below w.heap.size w w3 from by rw[<-h3];exact HB2.o.alloc HB2.o.size _);clear h3 HR HB2 x0 x1 x2 x3 x4
   cases hq:fU o with
   |true=>
    have HQ:=qd hq;clear hq;go_wp2;go_roundw
    case measure=>simp[intOf];exact HM.o
    exact⟨j+1,by omega,rfl,qd (by rw[HT.o.1,kq,HA.o];simp[HQ.o]),HB3⟩
   |false=>
    have HE:=qd (show kC l=3 from by unfold kC;rw[if_neg Q5.o,if_pos (QR.2 ⟨o,HT.o.2,by rw[hq];rfl⟩)]);clear hq;go_wp2;go_ret;exact⟨by rw[HE.o];rfl,HB3.o⟩
  ·obtain rfl:j=n:=by omega
   have hlt':¬(j:Int)<(j:Int):=by omega
   have ha:=HA.o;rw[<-HL.o.1,yr]at ha;have HA2:=qd (show¬(l.any λo=> !fU o)=true from by rw[ha];decide);have hO:=Ze A j c l wr (Na.o wr HB.o) HL.o.2.1 HL.o.2.2;unfold Ag at hO;have HO:=qd hO;clear ha hO HA;go_wp2_with fail;refine HO.o.mono ?_;rintro y w2 ⟨hy,hb2⟩;have HB2:=qd (HB.o.trans (hb2.mono HB.o.size));clear hb2 HO HB
   cases ho:other l with
   |some q=>
    rw[ho]at hy;simp only at hy;subst hy
    have hq0:(0:Int)<=(q:Int):=by omega
    have HE:=qd (show kC l=8 from by unfold kC;rw[if_neg Q5.o,if_neg HA2.o,ho];rfl);clear ho;go_wp2;go_ret;exact⟨by rw[HE.o];rfl,HB2.o⟩
   |none=>
    rw[ho]at hy;simp only at hy;subst hy;have HE:=qd (show kC l=0 from by unfold kC;rw[if_neg Q5.o,if_neg HA2.o,ho];rfl);clear ho;go_wp2;go_ret;exact⟨by rw[HE.o];rfl,HB2.o⟩
theorem Zj {W0:World}{E:Nat->Addr}(hE:Env W0 E w)(hEr:eU E W0)(k m i:Int)(h:Reads w w.heap.size 5 A l.length (aQ l))(hn:l.length<=65536):
  Calls Tryz.prog 5 #[eX k m i,.slice A l.length c] w λy w'=>y= .returned (.int .i64 (fM k m i l:Int))/\Below w.heap.size w w':=by
 have HCk:=qd (λ(V:World) (hb:Below w.heap.size w V)=>xU k m i V (hE.next hb).errs);have HNm:=qd (λ(V:World) (j:Nat) (hj:j<=16) (hb:Below w.heap.size w V)=>adO (hEr.below (hE.next hb).below (zb _)) j hj);have jT:=qd h;have kU:=qd hn;clear hE hEr h hn;unfold eX at HCk|-;go_in;go_upto_region 1 with fail;refine aY (F:=λV=>aj V w.heap.size 23 #[.int .i64 k,.int .i64 m,.int .i64 i]/\Below w.heap.size w V) ⟨aj.new w 23 #[.int .i64 k,.int .i64 m,.int .i64 i],(Below.refl w.heap.size w).alloc (zb _) _⟩ ?_;rintro w1 ⟨hX,hb1⟩;have HB1:=qd hb1;obtain⟨bx,hbx⟩:∃bx,bx=w.heap.size:=⟨_,rfl⟩;rw[<-hbx]at hX|-;have HX:=qd hX;have HO:=qd (Zf w1 w1.heap.size 47 5 (zb _));have nV:=qd ((Below.refl w1.heap.size w1).alloc (zb _) (.cells #[] 47));clear hX hb1 hbx;go_wp2;go_loopw [5,12] (λv5 v12 wr=>∃j:Nat,j<=l.length/\v12=nI j/\Hqq (wr.ownsRow w1.heap.size 47 5 v5 j (aQ (l.take j)))/\Hqq (Below w1.heap.size w1 wr)) (λ_ v12 _=>l.length-(intOf v12).toNat)
 case atStart=>exact⟨0,by omega,rfl,HO,nV⟩
 case round=>
  clear HO nV;obtain⟨j,hj,rfl,HO,nV⟩:=hrel;by_cases hlt:j<l.length
  ·have ho:l[j]?=some (l[j]'hlt):=zg _;generalize l[j]'hlt=o at ho;obtain⟨gb,off,rfl,hb,c0,c1,c2,c3,c4⟩:=jE (jT.o.below (HB1.o.trans (nV.o.mono HB1.o.size))) ho
   have hlt':(j:Int)<(l.length:Int):=by omega
   have hj0:(0:Int)<=(j:Int):=by omega
   have TT:IntKind.i64.wrap ((j:Int)+1)=((j+1:Nat):Int):=by have:=kU.o;rw[ZZ];omega
   have HT:=qd (iy ho);have HM:=qd (show l.length-(j+1)<l.length-j by omega);have hl6:=kU.o;clear ho hb;go_upto_region 5 with fail;refine aY (F:=λv=>aj v wr.heap.size 45 #[.int .i64 o.kind,.int .u64 o.key,.int .u64 o.val,.int .u64 o.hash,.int .i64 o.iter]/\Below wr.heap.size wr v) ⟨aj.new wr 45 #[.int .i64 o.kind,.int .u64 o.key,.int .u64 o.val,.int .u64 o.hash,.int .i64 o.iter],(Below.refl wr.heap.size wr).alloc (zb _) _⟩ ?_;rintro w2 ⟨hX2,hb2⟩;obtain⟨xb,hxb⟩:∃xb,xb=wr.heap.size:=⟨_,rfl⟩;rw[<-hxb]at hX2|-;obtain⟨x0,x1,x2,x3,x4⟩:=hX2.c5;have HB2:=qd (nV.o.trans (hb2.mono nV.o.size));have uQ:=qd (own_below HO.o hb2 (zb _));have hof:=abV o w2;unfold oq at hof;have HF:=qd hof;clear hX2 hb2 hxb hof c0 c1 c2 c3 c4 HO nV;go_wp2_with fail;refine HF.o.mono ?_;rintro y w3 ⟨rfl,hb3⟩;have HB3:=qd (HB2.o.trans (hb3.mono HB2.o.size));have qZ:=qd (own_below uQ.o hb3 (zb _));obtain⟨A5,c5,hv5⟩:=bq qZ.o;subst hv5;have hrow:=qZ.o;have hbs:=HB3.o.size;clear hb3 HF uQ HB2 x0 x1 x2 x3 x4;go_wp2_with (at_builtin;refine gD rfl rfl Zh hrow rfl rfl rfl rfl rfl (by omega) hbs ?_;intro v7 w7 Dh Ra)
   have HO7:=qd (show w7.ownsRow w1.heap.size 47 5 v7 (j+1) (aQ (l.take (j+1)))from by
    rw[HT.o];unfold aQ at Dh|-;rw[ka,yn,List.flatMap_nil,yy]
    simpa[oo]using Dh)
   have HB7:=qd (HB3.o.trans Ra.below);clear Dh Ra hrow;go_wp2;go_roundw
   case measure=>simp[intOf];exact HM.o
   exact⟨j+1,by omega,rfl,HO7,HB7⟩
  ·obtain rfl:j=l.length:=by omega
   have hlt':¬(l.length:Int)<(l.length:Int):=by omega
   have hO:=HO.o;rw[yr]at hO;obtain⟨A5,c5,hv5⟩:=bq hO;subst hv5;have T9:=qd (Zi (Reads.jy hO) kU.o (abW hO));clear hO HO;go_wp2_with fail;refine T9.o.mono ?_;rintro y w2 ⟨rfl,hb2⟩;have HB2:=qd (nV.o.trans (hb2.mono nV.o.size));have Ua:=qd (HB1.o.trans (HB2.o.mono HB1.o.size));have hX:=HX.o.below HB2.o HX.o.lt;obtain⟨x0,x1,x2⟩:=hX.c3;clear hb2 T9 hX HX nV;by_cases hm:kC l=0
   ·have MS:(kC l:Int)=0:=by omega
    have K9:=HCk.o w2 Ua.o;rw[MS]
    cases hc:jB k m i with
    |true=>
     rw[hc,if_pos rfl]at K9;have Rq:=qd K9;have HE:=qd (show fM k m i l=0 from by unfold fM;rw[if_pos hm,if_pos hc]);clear hm MS hc K9;go_wp2_with fail;refine Rq.o.mono ?_;rintro y w3 ⟨rfl,hb3⟩;have HB3:=qd (Ua.o.trans (hb3.mono Ua.o.size));have HN:=qd (Sw w3);clear hb3 Rq;go_wp2_with fail;refine HN.o.mono ?_;rintro y w4 ⟨rfl,rfl⟩;go_wp2;go_ret;exact⟨by rw[HE.o];rfl,HB3.o⟩
    |false=>
     rw[hc,if_neg (by decide)]at K9;have Rq:=qd K9;have HE:=qd (show fM k m i l=1 from by unfold fM;rw[if_pos hm,hc];rfl);clear hm MS hc K9;go_wp2_with fail;refine Rq.o.mono ?_;rintro y w3 ⟨rfl,hb3⟩;have HB3:=qd (Ua.o.trans (hb3.mono Ua.o.size));have HN:=qd (HNm.o w3 1 (by decide) HB3.o);clear hb3 Rq;go_wp2_with fail;refine HN.o.mono ?_;rintro y w4 ⟨rfl,hb4⟩;have JV:=qd (HB3.o.trans (hb4.mono HB3.o.size));clear hb4;go_wp2;go_ret;exact⟨by rw[HE.o];rfl,JV.o⟩
   ·have MS:¬(kC l:Int)=0:=by omega
    have HE:=qd (show fM k m i l=kC l from by unfold fM;rw[if_neg hm]);clear hm;go_wp2;go_ret;exact⟨by rw[HE.o];rfl,Ua.o⟩
end
section
theorem FI {o:aB}{q:Nat}{u:Value}:∀{l:List aB} {i:Nat},l[i]?=some o->(sS o.key 0 o.hash)[q]?=some u->(kD l)[i*3+q]?=some u
 | [],_,h,_=>by simp at h
 |x::l,0,h,hu=>by
  obtain rfl:x=o:=by simpa using h
  have hq:=(zz.1 hu).1;unfold kD;rw[yn,Z2 (by omega),Nat.zero_mul,yz];exact hu
 |x::l,i+1,h,hu=>by
  have:=FI (l:=l) (i:=i) (by simpa using h) hu;unfold kD at this|-;rw[yn,Z1 (by simp[sS];omega)];rw[show(i+1)*3+q-(sS x.key 0 x.hash).length=i*3+q by simp[sS];omega];exact this
def abX (W0:World)(E:Nat->Addr)(K M I b:Nat)(l:List aB)(w:World)(j:Nat)(wr:World):Prop:=
 ∃G,gK W0 E (lg l) K M I b G wr (eG M I ko (l.take j))/\(∀q∈G,w.heap.size<=q)/\Below w.heap.size w wr
structure qA (W0:World)(E:Nat->Addr)(H:Nat->Nat)(K M I b:Nat)(s:St)(L:List aB)(w:World)(B2 B5 fb:Nat)(v15:Value)(nf:Nat)(xs:List Value)(j:Nat)(G F:List Nat)(P:PL)(wr:World):Prop where
 at_:gK W0 E H K M I b G wr s
 pl:wY B2 wr fb M F P
 seen:mU s.R (L.take j) P
 row:uz B5 wr 67 3 v15 nf xs (G++F)
 ap:∀q∈F,q∉G
 lo:∀q∈G,w.heap.size<=q
 below:Below w.heap.size w wr
section
variable {W0 : World} {E : Nat -> Addr} {H : Nat -> Nat} {K M I b : Nat} {s : St} {L : List aB} {w : World} {B2 B5 fb : Nat} {v15 : Value} {nf : Nat} {xs : List Value} {j : Nat} {G F : List Nat} {P : PL} {wr V : World}
theorem qA.next (h:qA W0 E H K M I b s L w B2 B5 fb v15 nf xs j G F P wr)(hb:Below wr.heap.size wr V):qA W0 E H K M I b s L w B2 B5 fb v15 nf xs j G F P V:=
 ⟨h.at_.below hb,h.pl.below hb,h.seen,h.row.below hb,h.ap,h.lo,h.below.trans (hb.mono h.below.size)⟩
theorem qA.got (h:qA W0 E H K M I b s L w B2 B5 fb v15 nf xs j G F P wr)(ht:gM W0 E H K M I b G wr V s):∃G',qA W0 E H K M I b s L w B2 B5 fb v15 nf xs j G' F P V/\Mod G wr V:=by
 obtain⟨G',h1,h2,h3⟩:=ht;refine⟨G',⟨h1,h.pl.mod h3 (λq hg hf=>h.ap q hf hg),h.seen, ?_,λq hf hg=> ?_,λq hq=>(h2 q hq).elim (h.lo q) (qf h.below.size),h.below.trans (h3.below h.lo h.below.size)⟩,h3⟩
 ·refine h.row.to (λq hq=> ?_) (h3.more (λk hk=>yi _ hk));rcases Zs.1 hq with hq|hq
  ·exact(h2 q hq).imp (yi _) id
  ·exact .inl (jj _ hq)
 ·rcases h2 q hg with hg|hg
  ·exact h.ap q hf hg
  ·exact absurd (h.pl.fC q hf).1 (Nat.not_lt.2 hg)
theorem qA.put (h:qA W0 E H K M I b s L w B2 B5 fb v15 nf xs j G F P wr)(hB:w.heap.size<=B2)(h0:W0.heap.size<=w.heap.size){o:aB}{v:Nat}(ho:L[j]?=some o)(hv:s.R o.key.toNat=some v)(ht:VR B2 wr V fb M F (pE P o.key.toNat v)):∃F',qA W0 E H K M I b s L w B2 B5 fb v15 nf xs (j+1) G F' (pE P o.key.toNat v) V:=by
 obtain⟨F',h1,h2,h3⟩:=ht;have hlo:∀q∈F,w.heap.size<=q:=λq hq=>qf hB (h.pl.fC q hq).2;refine⟨F',⟨h.at_.mod h3 (λq hq=>⟨h.ap q hq,qf h0 (hlo q hq)⟩),h1,by rw[iy ho];exact h.seen.some_ hv, ?_,λq hf hg=> ?_,h.lo,h.below.trans (h3.below hlo h.below.size)⟩⟩
 ·refine h.row.to (λq hq=> ?_) (h3.more (λk hk=>jj _ hk));rcases Zs.1 hq with hq|hq
  ·exact .inl (yi _ hq)
  ·exact(h2 q hq).imp (jj _) id
 ·rcases h2 q hf with hf|hf
  ·exact h.ap q hf hg
  ·exact absurd (h.at_.fC q hg).1 (Nat.not_lt.2 hf)
theorem qA.skip (h:qA W0 E H K M I b s L w B2 B5 fb v15 nf xs j G F P wr){o:aB}(ho:L[j]?=some o)(hv:s.R o.key.toNat=none):qA W0 E H K M I b s L w B2 B5 fb v15 nf xs (j+1) G F P wr:=
 ⟨h.at_,h.pl,by rw[iy ho];exact h.seen.none_ hv,h.row,h.ap,h.lo,h.below⟩
end
def V8 (E:Nat->Addr)(k m i:Int)(l:List aB)(w:World)(y:Ending)(w':World):Prop:=
 ((fM k m i l≠0/\y= .returned (.tuple #[.slice none 0 0,eT E (fM k m i l)]))\/
  (fM k m i l=0/\∃(v:Value) (P:PL),y= .returned (.tuple #[v,.nilIface])/\w'.ownsRow w.heap.size 39 2 v P.length (P.flatMap dQ)/\gN P/\∀x,jo P x=(eG m.toNat i.toNat ko l).R x))/\Below w.heap.size w w'
theorem abY {W0:World}{E:Nat->Addr}{w:World}(hE:Env W0 E w)(hEr:eU E W0)(k m i:Int){A:Option Addr}{c:Nat}{l:List aB}(h:Reads w w.heap.size 5 A l.length (aQ l))(hn:l.length<=65536)(hwf:∀o∈l,pz o):
  Calls Tryz.prog 7 #[eX k m i,.slice A l.length c] w (V8 E k m i l w):=by
 have hup:∀V,Below w.heap.size w V->Reads V V.heap.size 5 A l.length (aQ l):=λV hb=>by
  have h2:=h.below hb
  exact⟨h2.1,λhn=>by
   obtain⟨g,off,a,b,d⟩:=h2.2 hn
   exact⟨g,off,a,yp b hb.size,d⟩⟩
 have hop:∀(V:World),Below w.heap.size w V->Calls Tryz.prog 16 #[eX k m i,.slice A l.length c] V (Q7 W0 E k m i l V):=λV hb=>
  TS (hE.next hb) (hEr.at_ 3 (by omega) (by omega)) (hEr.at_ 6 (by omega) (by omega)) (hEr.at_ 7 (by omega) (by omega)) (hEr.at_ 8 (by omega) (by omega)) (hEr.at_ 9 (by omega) (by omega)) k m i (hup V hb) hn hwf
 have hnw:∀V,Below w.heap.size w V->Calls Tryz.prog 17 #[eX k m i] V _:=λV hb=>YN (lg l) (hE.next hb) k m i;have hhs:∀V,Below w.heap.size w V->Calls Tryz.prog 20 #[.slice A l.length c] V (Rc V l):=λV hb=>Oa A l.length c l V (hup V hb) hn hwf;have Db:=qd hop;have jJ:=qd hnw;have Gm:=qd hhs;have jT:=qd h;have yO:=qd (And.intro (hEr.at_ 6 (by omega) (by omega)) (hEr.at_ 7 (by omega) (by omega)));have EI:=qd hE.size;have oZ:=qd hwf;clear hup hop hnw hhs hE hEr h hwf hn;unfold eX at Db jJ|-;go_in;go_upto_region 1 with fail;refine aY (F:=λV=>aj V w.heap.size 23 #[.int .i64 k,.int .i64 m,.int .i64 i]/\Below w.heap.size w V) ⟨aj.new w 23 #[.int .i64 k,.int .i64 m,.int .i64 i],(Below.refl w.heap.size w).alloc (zb _) _⟩ ?_;rintro w1 ⟨hX,hb1⟩;have HB1:=qd hb1;obtain⟨bx,hbx⟩:∃bx,bx=w.heap.size:=⟨_,rfl⟩;rw[<-hbx]at hX|-;have HX:=qd hX;obtain⟨x0,x1,x2⟩:=hX.c3;have uJ:=qd (Db.o w1 hb1);clear hX hb1 hbx;go_wp2_with fail;refine uJ.o.mono ?_;rintro y w2 ⟨hy,hb2⟩;have HB2:=qd hb2;clear hb2 uJ Db;rcases hy with⟨hbg,rfl⟩|⟨hbg,v1,us,rfl,ho1,_⟩
 ·obtain⟨e,he⟩:∃e,e=fM k m i l:=⟨_,rfl⟩;have HFin:=qd (show∀V,Below w.heap.size w V->V8 E k m i l w (.returned (.tuple #[.slice none 0 0,eT E e])) V from λV hV=>⟨.inl ⟨hbg,by rw[<-he]⟩,hV⟩);rw[<-he]at hbg|-;rw[gH E (by omega)]at HFin|-;clear he hbg;go_wp2;refine bodyPost_ret (v:= .tuple #[.slice none 0 0,.iface 333 (.pointer (some (E e)))]) (by simp[results,Tryz.results7,go_sem]) rfl (HFin.o _ (HB1.o.trans (HB2.o.mono HB1.o.size)))
 obtain⟨A1,c1,rfl⟩:=bq ho1;have uV:=qd (YQ hbg);have oD:=qd hbg;replace x0:=aA HB2.o x0;replace x1:=aA HB2.o x1;replace x2:=aA HB2.o x2;have Xr:=qd (jJ.o w2 (HB1.o.trans (HB2.o.mono HB1.o.size)));clear ho1 hbg jJ;go_wp2_with fail;refine Xr.o.mono ?_;rintro y w3 ⟨hy,hb3⟩;have HB3:=qd (HB2.o.trans (hb3.mono HB2.o.size));clear hb3 Xr x0 x1 x2;rcases hy with⟨hc,_⟩|⟨hc,b,G,rfl,hD,hG⟩
 ·rw[uV.o.cfg]at hc;cases hc
 have hcf:=K4 hc;obtain⟨K,hK⟩:∃K,K=k.toNat:=⟨_,rfl⟩;obtain⟨M,hM⟩:∃M,M=m.toNat:=⟨_,rfl⟩;obtain⟨I,hI⟩:∃I,I=i.toNat:=⟨_,rfl⟩;rw[<-hK,<-hM,<-hI]at hD;have HMI:=qd (show 1<=M/\1<=I by omega);have HM:=qd (show m=(M:Int) by omega);have HFin:=qd (show∀V v P,Below w.heap.size w V->V.ownsRow w.heap.size 39 2 v P.length (P.flatMap dQ)->gN P->(∀x,jo P x=(eG M I ko l).R x)->V8 E k m i l w (.returned (.tuple #[v,.nilIface])) V from λV v P hV ho ha hg=>⟨.inr ⟨oD.o,v,P,rfl,ho,ha,by rw[<-hM,<-hI];exact hg⟩,hV⟩);have nD:Hqq (abX W0 E K M I b l w1 0 w3):=qd ⟨G,hD,λq hq=>qf HB2.o.size (hG q hq),HB3.o⟩;clear hcf hc hK hM hI hD hG oD HB2 HB3;go_wp2;go_loopw [39] (λv39 wr=>∃j:Nat,j<=l.length/\v39=nI j/\Hqq (abX W0 E K M I b l w1 j wr)) (λv39 _=>l.length-(intOf v39).toNat)
 case atStart=>exact⟨0,by omega,rfl,nD⟩
 case round=>
  clear nD;obtain⟨j,hj,rfl,nD⟩:=hrel;by_cases hlt:j<l.length
  ·have ho:l[j]?=some (l[j]'hlt):=zg _;generalize l[j]'hlt=o at ho;obtain⟨G1,hD,hG1,hbr⟩:=nD.o;obtain⟨gb,off,rfl,hb,c0,c1,c2,c3,c4⟩:=jE (jT.o.below (HB1.o.trans (hbr.mono HB1.o.size))) ho
   have hlt':(j:Int)<(l.length:Int):=by omega
   have hj0:(0:Int)<=(j:Int):=by omega
   have hl2:=uV.o.len
   have TT:IntKind.i64.wrap ((j:Int)+1)=((j+1:Nat):Int):=by rw[ZZ];omega
   have hmem:=zE ho;have hgv:=CO M I (l.take j) ko
   have hgl:(l.take j).length<=j:=by rw[qn];omega
   have HT:=qd (iy ho);have HD:=qd (And.intro hG1 hbr);have YS:=qd (λ(V:World) (hV:Below wr.heap.size wr V)=>YK (hD.below hV) o (uV.o.right o hmem) (oZ.o o hmem) (λhk=>Ir uV.o.free oZ.o hmem hk) (Iq oZ.o) (by have:ko.gv=0:=rfl;omega) HMI.o yO.o.1 yO.o.2);clear hD hG1 hbr hmem hgv hgl ho hb nD;go_upto_region 10 with fail;refine aY (F:=λv=>aj v wr.heap.size 45 #[.int .i64 o.kind,.int .u64 o.key,.int .u64 o.val,.int .u64 o.hash,.int .i64 o.iter]/\Below wr.heap.size wr v) ⟨aj.new wr 45 #[.int .i64 o.kind,.int .u64 o.key,.int .u64 o.val,.int .u64 o.hash,.int .i64 o.iter],(Below.refl wr.heap.size wr).alloc (zb _) _⟩ ?_;rintro w2 ⟨hX2,hb2⟩;obtain⟨x0,x1,x2,x3,x4⟩:=hX2.c5;have hdo:=YS.o w2 hb2;unfold oq at hdo;have Q8:=qd hdo;have HD2:=qd (HD.o.2.trans (hb2.mono HD.o.2.size));obtain⟨xb,hxb⟩:∃xb,xb=wr.heap.size:=⟨_,rfl⟩;rw[<-hxb]at x0 x1 x2 x3 x4|-;clear hX2 hb2 hdo YS hxb c0 c1 c2 c3 c4;go_wp2_with fail;refine Q8.o.mono ?_;rintro y w4 ⟨a,rfl,_,hto⟩;obtain⟨G4,hD4,hs4,dO⟩:=hto;have agQ:Hqq (∀V,Below w4.heap.size w4 V->abX W0 E K M I b l w1 (j+1) V):=qd (λV hV=>⟨G4,by rw[HT.o,E8];exact hD4.below hV,λq hq=>(hs4 q hq).elim (HD.o.1 q) (qf HD2.o.size),(HD2.o.trans (dO.below HD.o.1 HD2.o.size)).trans (hV.mono (qf HD2.o.size dO.size))⟩);have Di:=qd (show l.length-(j+1)<l.length-j by omega);clear hD4 hs4 dO Q8 HD2 HD HT;unfold rO;rcases oI E a.err with hu|⟨Ae,hu⟩
   all_goals
    rw[hu];clear hu;go_wp2;go_roundw
    case measure=>simp[intOf];exact Di.o
    exact⟨j+1,by omega,rfl,qd (agQ.o _ ((Below.refl _ _).alloc (zb _) _))⟩
  ·obtain rfl:j=l.length:=by omega
   have hlt':¬(l.length:Int)<(l.length:Int):=by omega
   obtain⟨G1,hD,hG1,hbr⟩:=nD.o;rw[yr]at hD;have HD:=qd (And.intro hD (And.intro hG1 hbr));have hX:=HX.o.below hbr HX.o.lt;have x1:=hX.cell 1;simp only[gl]at x1;rw[HM.o]at x1;have HPn:=qd (afj M wr);clear hD hG1 hbr hX nD HX;go_wp2_with fail;refine HPn.o.mono ?_;rintro y w5 ⟨rfl,hf5,hb5⟩;obtain⟨fb,nO⟩:∃fb,fb=wr.heap.size:=⟨_,rfl⟩;have HF5:=qd (show wY wr.heap.size w5 fb M [fb] []from by rw[nO];exact hf5);have HD5:=qd (And.intro (HD.o.1.below hb5) (And.intro HD.o.2.1 (And.intro (HD.o.2.2.trans (hb5.mono HD.o.2.2.size)) (And.intro hb5.size HD.o.2.2.size))));have HG5:=qd (show∀q∈G1,q<wr.heap.size from λq hq=>(HD.o.1.fC q hq).1);have afp:=qd (Gm.o w5 (HB1.o.trans (HD5.o.2.2.1.mono HB1.o.size)));rw[<-nO];have HFb:=qd (show fb=wr.heap.size from nO);clear hf5 hb5 HPn HD x1 Gm nO;go_wp2_with fail;refine afp.o.mono ?_;rintro y w6 ⟨v15,rfl,Dg,hb6⟩;obtain⟨A6,c6,rfl⟩:=bq Dg;obtain⟨L,hL⟩:∃L,L=firsts l:=⟨_,rfl⟩;rw[<-hL]at Dg|-;obtain⟨s,hs⟩:∃s,s=eG M I ko l:=⟨_,rfl⟩;have fE:=qd (And.intro hL hs);obtain⟨B2,hB2⟩:∃B2,B2=wr.heap.size:=⟨_,rfl⟩
   have GD:qA W0 E (lg l) K M I b s L w1 B2 w5.heap.size fb (.slice A6 L.length c6) L.length (kD L) 0 G1 [fb] [] w6:=by
    rw[hs,hB2];refine⟨HD5.o.1.below hb6,HF5.o.below hb6,mU.nil _,⟨Dg,λg hg hq=> ?_⟩,λq hf hg=> ?_,HD5.o.2.1,HD5.o.2.2.1.trans (hb6.mono HD5.o.2.2.1.size)⟩
    ·have h1:=(Dg.lt g (by rw[hg])).1;rcases Zs.1 hq with hq|hq
     ·have:=HG5.o g hq;have:=HD5.o.2.2.2.1;omega
     ·rw[zj.1 hq]at h1;have:=(HF5.o.fC fb (by simp)).1;omega
    ·have h1:=HG5.o q hg;rw[zj.1 hf,HFb.o]at h1;omega
   have II:Hqq (∃G F P,qA W0 E (lg l) K M I b s L w1 B2 w5.heap.size fb (.slice A6 L.length c6) L.length (kD L) 0 G F P w6):=qd ⟨_,_,_,GD⟩;have HBr:=qd (show w1.heap.size<=B2 from by rw[hB2];exact HD5.o.2.2.2.2);have HL2:=qd (show L.length<=2000 from by rw[hL];exact qf (Dt l) uV.o.len);clear GD Dg hb6 hL hs hB2 afp HD5 HF5 HG5 HFb;go_wp2;go_loopw [59] (λv59 wr=>∃j:Nat,j<=L.length/\v59=nI j/\Hqq (∃G F P,qA W0 E (lg l) K M I b s L w1 B2 w5.heap.size fb (.slice A6 L.length c6) L.length (kD L) j G F P wr)) (λv59 _=>L.length-(intOf v59).toNat)
   case atStart=>exact⟨0,by omega,rfl,II⟩
   case round=>
    clear II;obtain⟨j,hj,rfl,II⟩:=hrel;by_cases hlt2:j<L.length
    ·have ho:L[j]?=some (L[j]'hlt2):=zg _;generalize L[j]'hlt2=o at ho
     have UN:(j:Int)<(L.length:Int):=by omega
     have hj0:(0:Int)<=(j:Int):=by omega
     have TT:IntKind.i64.wrap ((j:Int)+1)=((j+1:Nat):Int):=by have:=HL2.o;rw[ZZ];omega
     obtain⟨G2,F2,P2,hG2⟩:=II.o;obtain⟨hm1,hm2⟩:=VU (by rw[<-fE.o.1];exact zE ho);obtain⟨g,off,hA6,_,hc6⟩:=(Reads.jy hG2.row.row).2 (by omega);obtain⟨kN,hkN⟩:∃kN,kN=o.key.toNat:=⟨_,rfl⟩
     have hk0:o.key=(kN:Int):=by obtain⟨_,_,q1,_⟩:=oZ.o o hm1;omega
     have hh0:o.hash=(lg l kN:Int):=by rw[hkN];exact Ir uV.o.free oZ.o hm1 hm2
     have r0:_=some (Value.int .u64 (kN:Int)):=hc6 (j*3+0) (nU kN) (FI ho (by rw[hk0];rfl));have r1:_=some (Value.int .u64 0):=hc6 (j*3+1) (.int .u64 0) (FI ho rfl);have r2:_=some (Value.int .u64 (lg l kN:Int)):=hc6 (j*3+2) (.int .u64 (lg l kN:Int)) (FI ho (by rw[hh0];rfl));rw[show off+(j*3+0)=off+j*3 by omega]at r0;rw[show off+(j*3+1)=off+j*3+1 by omega]at r1;rw[show off+(j*3+2)=off+j*3+2 by omega]at r2;have HO:=qd ho;have Ub:=qd hkN;have HG2:=qd hG2;have Di:=qd (show L.length-(j+1)<L.length-j by omega);subst hA6;clear hc6 ho hkN hk0 hh0 hm1 hm2 hG2 II;go_upto_region 18 with fail;refine aY (F:=λv=>aj v wr.heap.size 67 #[nU kN,.int .u64 0,.int .u64 (lg l kN:Int)]/\Below wr.heap.size wr v) ⟨aj.new wr 67 #[nU kN,.int .u64 0,.int .u64 (lg l kN:Int)],(Below.refl wr.heap.size wr).alloc (zb _) _⟩ ?_;rintro w7 ⟨Zk,wN⟩;obtain⟨eb,Ee⟩:∃eb,eb=wr.heap.size:=⟨_,rfl⟩;rw[<-Ee]at Zk|-;have x0:=Zk.cell 0;have x2:=Zk.cell 2;simp only[gl]at x0 x2;have hG7:=HG2.o.next wN;have HGt:=qd (YH hG7.at_ kN (Iq oZ.o kN));have HX7:=qd Zk;have qI:=qd (show eb∉G2 from λhg=>by have:=(HG2.o.at_.fC eb hg).1;omega);have HG7:=qd hG7;clear Zk wN Ee hG7 r0 r1 r2 HG2;go_wp2_with fail;refine HGt.o.mono ?_;rintro y w8 ⟨rfl,hto⟩;obtain⟨G8,hG8,hm8⟩:=HG7.o.got hto;have hX8:=HX7.o.mod hm8 qI.o;have Uc:=qd hG8;clear x0 x2 hto hm8 HGt HG7;have x0:=hX8.cell 0;simp only[gl]at x0
     cases hv:s.R kN with
     |none=>
      have Rb:Hqq (∃G F P,qA W0 E (lg l) K M I b s L w1 B2 w5.heap.size fb (.slice (some ⟨g,off,none⟩) L.length c6) L.length (kD L) (j+1) G F P w8):=qd ⟨_,_,_,Uc.o.skip HO.o (by rw[<-Ub.o];exact hv)⟩;clear hv hX8 hG8 HX7;go_wp2;go_roundw
      case measure=>simp[intOf];exact Di.o
      exact⟨j+1,by omega,rfl,Rb⟩
     |some v=>
      have hroom:=mU.room Uc.o.at_ Uc.o.seen hv;have Ec:=qd (afk Uc.o.pl (by omega) kN v hroom.1 (by have:=Uc.o.at_.least.2;omega));have HV:=qd hv;clear hv hX8 hG8 HX7 hroom;simp only[Ys];go_wp2_with fail;refine Ec.o.mono ?_;rintro y w9 ⟨rfl,hto⟩
      have Rb:Hqq (∃G F P,qA W0 E (lg l) K M I b s L w1 B2 w5.heap.size fb (.slice (some ⟨g,off,none⟩) L.length c6) L.length (kD L) (j+1) G F P w9):=qd (by
       have agR:VR B2 w8 w9 fb M F2 (pE P2 o.key.toNat v):=by rw[<-Ub.o];exact hto
       obtain⟨F9,h9⟩:=Uc.o.put HBr.o (qf EI.o HB1.o.size) HO.o (by rw[<-Ub.o];exact HV.o) agR
       exact⟨_,_,_,h9⟩)
      clear hto Ec x0;go_wp2;go_roundw
      case measure=>simp[intOf];exact Di.o
      exact⟨j+1,by omega,rfl,Rb⟩
    ·obtain rfl:j=L.length:=by omega
     have UN:¬(L.length:Int)<(L.length:Int):=by omega
     obtain⟨G2,F2,P2,hG2⟩:=II.o;have hP:=hG2.seen;rw[yr,fE.o.1,fE.o.2]at hP;have HP2:=qd (And.intro hP.qO (λx=>hP.end_ x));have HBq:=qd (HB1.o.trans (hG2.below.mono HB1.o.size))
     have rX:=qd (abP hG2.pl (by
      have h1:=hG2.at_.count (uF hG2.seen.qO) (λk hk=>hG2.seen.IC hk);have h2:=hG2.at_.least;rw[qS]at h1
      omega))
     clear hP hG2 II;go_wp2_with fail;refine rX.o.mono ?_;rintro y w8 ⟨v8,rfl,Rs,kF⟩;have HF:=qd (HFin.o w8 v8 P2 (HBq.o.trans (kF.mono HBq.o.size)) (Aa Rs HBq.o.size) HP2.o.1 HP2.o.2);obtain⟨A8,c8,rfl⟩:=bq Rs;clear Rs kF rX;go_wp2;refine bodyPost_ret (v:= .tuple #[.slice A8 P2.length c8,.nilIface]) (by simp[results,Tryz.results7,go_sem]) rfl HF.o
end
