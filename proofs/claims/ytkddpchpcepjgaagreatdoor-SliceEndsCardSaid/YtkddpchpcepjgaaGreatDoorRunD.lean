/- script.Consistent and script.Hashes by their contracts. -/
import Derived.Test.YtkddpchpcepjgaaGreatDoorMapF
namespace Go.Proofs.YtkddpchpcepjgaaGreatDoor
set_option maxRecDepth 100000
set_option maxHeartbeats 8000000
open Go.RowKit uq Go.Maps cu
section
variable {w w' : World} {r : Option Nat}
theorem Iu (w:World):(zeroValue 37).run Tryz.prog w= .ok (.int .u64 0) w:=by kernel_rfl
theorem CP (w:World):(zeroValue 3).run Tryz.prog w= .ok (.int .i64 0) w:=by kernel_rfl
def CQ (w:World)(r:Option Nat)(e:Ending)(w':World):Prop:=
 (match r with
  |some i=>e= .returned (.tuple #[nI i,.bool false])
  |none=>e= .returned (.tuple #[.int .i64 0,.bool true]))/\Below w.heap.size w w'
theorem abF {i:Nat}(h:r=some i)(hb:Below w.heap.size w w'):CQ w r (.returned (.tuple #[nI i,.bool false])) w':=by
 subst h;exact⟨rfl,hb⟩
theorem abG (h:r=none)(hb:Below w.heap.size w w'):CQ w r (.returned (.tuple #[.int .i64 0,.bool true])) w':=by
 subst h;exact⟨rfl,hb⟩
structure aff (w:World)(l:List aB)(R:Option Nat)(k:Nat)(wr:World):Prop where
 rest:kK (l.take k) (l.drop k)=R
 free:free (l.take k)
 map:iG wr Tryz.prog 37 37 .u64 .u64 w.heap.size k (known (l.take k))
 below:Below w.heap.size w wr
theorem FP (A:Option Addr)(n c:Nat)(l:List aB)(w:World)(h:Reads w w.heap.size 5 A n (aQ l))(hn:n<=65536)(hwf:∀o∈l,pz o):
  Calls Tryz.prog 60 #[.slice A n c] w (CQ w (other l)):=by
 have hl:l.length=n:=by have:=h.1;rw[dZ]at this;omega
 generalize hR:other l=R;have HR:=qd (show kK (l.take 0) (l.drop 0)=R from by simpa[other]using hR);clear hR;have hmm:=@run_makeMap Tryz.prog;go_in;go_wp2;go_loopw [5,6,7,8,12] (λ_ _ _ _ i wr=>∃k:Nat,k<=n/\i= .int .i64 k/\aff w l R k wr) (λ_ _ _ _ i _=>n-(intOf i).toNat)
 case atStart=>exact⟨0,by omega,rfl,HR.o,QU,iG.made _ _ _ _ _ _,(Below.refl _ _).alloc (zb _) _⟩
 case round=>
  obtain⟨k,hk,rfl,hc⟩:=hrel;by_cases hlt:k<n
  ·have ho:l[k]?=some (l[k]'(by omega)):=zg _;have hw0:=hwf _ (List.getElem_mem (show k<l.length by omega));generalize l[k]'(by omega)=o at ho hw0;obtain⟨b,off,rfl,hb,c0,c1,c2,c3,c4⟩:=jE (h.below hc.below) ho;have hrest:=hc.rest;rw[TR ho,kK]at hrest;have hfree:=hc.free;have hkn:=CJ (l.take k) o;have uX:=R6 hfree o;have htk:=iy ho
   have hlen:(l.take k).length=k:=by rw[qn];omega
   rw[hlen,<-htk]at hrest;rw[<-htk]at hkn;have hsn:=M0 (o:=o) hfree;rw[<-htk]at hsn;obtain⟨_,_,w2,w3,_,_,w6,w7,_,_⟩:=hw0;have hwk:=qd (wf_u64 w2 w3);have hwh:=qd (wf_u64 w6 w7);have hmap:=hc.map;have hbel:=hc.below;clear hc ho htk hlen
   have hlt':(k:Int)<(n:Int):=by omega
   cases hK:cZ o.kind with
   |false=>
    rw[hK,vq]at uX;rw[uX,if_neg (by simp)]at hrest
    have hk2:known (l.take (k+1))=known (l.take k):=by rw[hkn,vJ,hK];rfl
    have mP:=qd hrest;have HF:=qd (hsn uX);have HK2:=qd hk2;have HK:=qd (show∀W,Calls Tryz.prog 46 #[.int .i64 o.kind] W λe w'=>e= .returned (.bool false)/\W=w' from λW=>by have:=qx o.kind W;rw[hK]at this;exact this);clear hrest hkn uX hsn hfree hk2 hK;go_wp2_with (go_at_call 46;refine(HK.o _).mono ?_;rintro e w1 ⟨rfl,rfl⟩);go_roundw
    case rel=>exact⟨k+1,by omega,by go_num,mP.o,HF.o,by rw[HK2.o];obtain⟨D,d1,d2⟩:=hmap.alloc _;exact⟨D,d1.mono (by omega),d2⟩,hbel.alloc hbel.size _⟩
    case measure=>first|(simp[intOf];done)|(simp[intOf];omega)
   |true=>
    rw[hK,J1]at uX;have HK:=qd (show∀W,Calls Tryz.prog 46 #[.int .i64 o.kind] W λe w'=>e= .returned (.bool true)/\W=w' from λW=>by have:=qx o.kind W;rw[hK]at this;exact this)
    have hk2:known (l.take (k+1))=λy=>if y=o.key then some o.hash else known (l.take k) y:=by rw[hkn,vJ,hK];rfl
    have HK2:=qd hk2;clear hkn hk2 hK
    cases hf:known (l.take k) o.key with
    |none=>
     rw[hf]at uX;rw[uX,if_neg (by simp)]at hrest;have mP:=qd hrest;have HF:=qd (hsn uX);have Hf:=qd hf;clear hrest uX hsn hfree hf
     go_wp2_with (first
      |(go_at_call 46;refine(HK.o _).mono ?_;rintro e w1 ⟨rfl,rfl⟩)
      |(at_lookup;refine vK rfl _ _ rfl Tryz.underlying37 Tryz.underlying169 Tryz.underlying37 (Iu _) rfl (hmap.alloc _) o.key rfl hwk.o ?_;rw[Hf.o])
      |(at_mapUpdate;refine pG rfl _ _ _ rfl Tryz.underlying37 Tryz.underlying169 Tryz.underlying37 rfl (hmap.alloc _) (by unfold maxLen;omega) o.key o.hash rfl rfl hwk.o hwh.o ?_;intro w2 hm2 hg2))
     go_roundw
     case rel=>exact⟨k+1,by omega,by go_num,mP.o,HF.o,by rw[HK2.o];exact hm2,(hbel.alloc hbel.size _).grown hg2 (by have:=hbel.size;simp;omega) (λj hj=>by cases hj;exact zb _)⟩
     case measure=>first|(simp[intOf];done)|(simp[intOf];omega)
    |some hv=>
     rw[hf]at uX;simp only at uX;have Hf:=qd hf;clear hf;by_cases hh:hv=o.hash
     ·have hne:(hv !=o.hash)=false:=by simp[hh]
      rw[hne]at uX;rw[uX,if_neg (by simp)]at hrest;have mP:=qd hrest;have HF:=qd (hsn uX);clear hrest uX hsn hfree hh
      go_wp2_with (first
       |(go_at_call 46;refine(HK.o _).mono ?_;rintro e w1 ⟨rfl,rfl⟩)
       |(at_lookup;refine vK rfl _ _ rfl Tryz.underlying37 Tryz.underlying169 Tryz.underlying37 (Iu _) rfl (hmap.alloc _) o.key rfl hwk.o ?_;rw[Hf.o])
       |(at_mapUpdate;refine pG rfl _ _ _ rfl Tryz.underlying37 Tryz.underlying169 Tryz.underlying37 rfl (hmap.alloc _) (by unfold maxLen;omega) o.key o.hash rfl rfl hwk.o hwh.o ?_;intro w2 hm2 hg2))
      go_roundw
      case rel=>exact⟨k+1,by omega,by go_num,mP.o,HF.o,by rw[HK2.o];exact hm2,(hbel.alloc hbel.size _).grown hg2 (by have:=hbel.size;simp;omega) (λj hj=>by cases hj;exact zb _)⟩
      case measure=>first|(simp[intOf];done)|(simp[intOf];omega)
     ·have hne:(hv !=o.hash)=true:=by simp[hh]
      rw[hne]at uX;rw[uX,if_pos rfl]at hrest;have mP:=qd hrest;clear hrest uX hsn hfree hh
      go_wp2_with (first
       |(go_at_call 46;refine(HK.o _).mono ?_;rintro e w1 ⟨rfl,rfl⟩)
       |(at_lookup;refine vK rfl _ _ rfl Tryz.underlying37 Tryz.underlying169 Tryz.underlying37 (Iu _) rfl (hmap.alloc _) o.key rfl hwk.o ?_;rw[Hf.o]))
      go_ret2;exact abF mP.o.symm (hbel.alloc hbel.size _)
  ·obtain rfl:k=n:=by omega
   have hrest:=hc.rest;rw[List.drop_eq_nil_of_le (by omega),kK]at hrest;have mP:=qd hrest;have hbel:=hc.below;clear hrest hc;go_wp2;go_ret2;exact abG mP.o.symm hbel
end
section
variable {A : Option Addr} {c n : Nat} {l : List aB} {W0 w : World} {E : Nat -> Addr}
def VL (z:Int)(b:Bool):Prop:=decide (z>=0)=b
theorem adE (h:Reads w w.heap.size 5 A n (aQ l))(hn:n<=65536)(g:Nat)(eg:∀args w,(callFunc g args).run Tryz.prog w= .ok (.enter g args) w)(p:aB->Bool)(hp:∀(W:World) (o:aB),o∈l->Calls Tryz.prog g #[oq o] W λe W'=>e= .returned (.bool (p o))/\Below W.heap.size W W'):
  Calls Tryz.prog 89 #[.slice A n c,.func (.func g) #[] #[]] w λe w'=>∃z:Int,e= .returned (.int .i64 z)/\VL z (l.any p)/\Below w.heap.size w w':=by
 have hl:l.length=n:=by have:=h.1;rw[dZ]at this;omega
 have HL:=qd hl;have HP:=qd hp;clear hl hp;go_in;go_wp2;go_loopw [4,5,8] (λ_ _ i wr=>∃k:Nat,k<=n/\i= .int .i64 k/\Hqq ((l.take k).any p=false)/\Hqq (Below w.heap.size w wr)) (λ_ _ i _=>n-(intOf i).toNat)
 case atStart=>exact⟨0,by omega,rfl,qd (by simp),qd (Below.refl _ _)⟩
 case round=>
  obtain⟨k,hk,rfl,HA,HB⟩:=hrel;by_cases hlt:k<n
  ·have ho:l[k]?=some (l[k]'(by rw[HL.o];omega)):=zg _;generalize l[k]'(by rw[HL.o];omega)=o at ho;obtain⟨b,off,rfl,hb,c0,c1,c2,c3,c4⟩:=jE (h.below HB.o) ho
   have hlt':(k:Int)<(n:Int):=by omega
   have hk0:(0:Int)<=(k:Int):=by omega
   have hwk:IntKind.i64.wrap ((k:Int)+1)=((k+1:Nat):Int):=by rw[ZZ];omega
   have HF:=qd (HP.o wr o (zE ho));have HT:=qd (iy ho);have HM:=qd (zE ho);clear ho
   cases hq:p o with
   |false=>
    have HQ:=qd hq;rw[hq]at HF;unfold oq at HF;clear hq;go_wp2_with (go_at_fn g;refine HF.o.mono ?_;rintro e w1 ⟨rfl,hb1⟩;have HB1:=qd (HB.o.trans (hb1.mono HB.o.size)));go_roundw
    case rel=>exact⟨k+1,by omega,by go_num,qd (by rw[HT.o,kq,HA.o];simp[HQ.o]),HB1⟩
    case measure=>simp[intOf];omega
   |true=>
    have HQ:=qd hq;rw[hq]at HF;unfold oq at HF;clear hq;go_wp2_with (go_at_fn g;refine HF.o.mono ?_;rintro e w1 ⟨rfl,hb1⟩;have HB1:=qd (HB.o.trans (hb1.mono HB.o.size)));refine bodyPost_ret (v:=nI k) (by simp[results,Tryz.results89,go_sem]) rfl ⟨k,rfl, ?_,HB1.o⟩;unfold VL;rw[QR.2 ⟨o,HM.o,HQ.o⟩];simp
  ·obtain rfl:k=n:=by omega
   have hlt':¬(k:Int)<(k:Int):=by omega
   have ha:=HA.o;rw[<-HL.o,yr]at ha;have HA2:=qd ha;clear ha HA;go_wp2;refine bodyPost_ret (v:= .int .i64 (-1)) (by simp[results,Tryz.results89,go_sem]) rfl ⟨-1,rfl, ?_,HB.o⟩;unfold VL;rw[HA2.o];simp
theorem YM (o:aB)(w:World):Calls Tryz.prog 59 #[oq o] w λe w'=>e= .returned (.bool (!fU o))/\Below w.heap.size w w':=by
 have M5:∀V,Calls Tryz.prog 38 #[oq o] V λy w'=>y= .returned (.bool (fU o))/\Below V.heap.size V w':=λV=>(E9 o V).mono λy w' ⟨a,e⟩=>⟨a,e▸(Below.refl _ _).alloc (zb _) _⟩;have hX:=aj.new w 45 #[.int .i64 o.kind,.int .u64 o.key,.int .u64 o.val,.int .u64 o.hash,.int .i64 o.iter];have hB:=(Below.refl w.heap.size w).alloc (zb _) (.cells #[.int .i64 o.kind,.int .u64 o.key,.int .u64 o.val,.int .u64 o.hash,.int .i64 o.iter] 45);unfold oq at M5|-;have HRt:=qd M5;obtain⟨W,hW⟩:∃W,W=w.alloc (.cells #[.int .i64 o.kind,.int .u64 o.key,.int .u64 o.val,.int .u64 o.hash,.int .i64 o.iter] 45):=⟨_,rfl⟩;rw[<-hW]at hX hB;obtain⟨x0,x1,x2,x3,x4⟩:=hX.c5;have HB:=qd hB;have HW:=qd hW;clear hX hB M5 hW;go_in;go_upto_region 1 with fail;rw[<-HW.o];go_wp2_with fail;refine(HRt.o W).mono ?_;rintro y w1 ⟨rfl,hb1⟩;have HB1:=qd (HB.o.trans (hb1.mono HB.o.size));clear hb1;go_wp2;go_ret;exact⟨rfl,HB1.o⟩
theorem K3 (h:Reads w w.heap.size 5 A n (aQ l))(hn:n<=65536):
  Calls Tryz.prog 58 #[.slice A n c,.func (.func 59) #[] #[]] w λe w'=>e= .returned (.bool (l.any λo=> !fU o))/\Below w.heap.size w w':=by
 have HC:=qd (adE (c:=c) h hn 59 (λargs w=>enters_of Tryz.func59 (by kernel_rfl) rfl args w) (λo=> !fU o) (λW o _=>YM o W));clear h;go_in;go_wp2_with fail;refine HC.o.mono ?_;rintro y w1 ⟨z,rfl,hz,hb⟩;have HZ:=qd hz;have HB:=qd hb;clear hz hb HC;go_wp2;go_ret;exact⟨by have:=HZ.o;unfold VL at this;rw[<-this];rfl,HB.o⟩
def kC (l:List aB):Nat:=if 2000<l.length then 9 else if(l.any λo=> !fU o)=true then 3 else if(other l).isSome=true then 8 else 0
def fM (k m i:Int)(l:List aB):Nat:=if kC l=0 then(if jB k m i=true then 0 else 1)else kC l
def agM (W0:World)(E:Nat->Addr)(k m i:Int)(l:List aB)(w:World)(y:Ending)(w':World):Prop:=
 ((fM k m i l≠0/\y= .returned (.tuple #[.pointer none,eT E (fM k m i l)]))\/
  (fM k m i l=0/\∃b G,y= .returned (.tuple #[pQ b,.nilIface])/\gK W0 E (lg l) k.toNat m.toNat i.toNat b G w' ko/\∀q∈G,w.heap.size<=q))/\Below w.heap.size w w'
theorem K4 {k m i:Int}(h:jB k m i=true):(1<=k.toNat/\k.toNat<=64)/\(1<=m.toNat/\m.toNat<=192)/\(1<=i.toNat/\i.toNat<=8)/\k=(k.toNat:Int)/\m=(m.toNat:Int)/\i=(i.toNat:Int):=by
 unfold jB BA at h;simp at h;omega
theorem YN (H:Nat->Nat)(hE:Env W0 E w)(k m i:Int):Calls Tryz.prog 17 #[eX k m i] w λy w'=>
  ((jB k m i=false/\y= .returned (.tuple #[.pointer none,eT E 1]))\/(jB k m i=true/\∃b G,y= .returned (.tuple #[pQ b,.nilIface])/\gK W0 E H k.toNat m.toNat i.toNat b G w' ko/\∀q∈G,w.heap.size<=q))/\Below w.heap.size w w':=by
 cases hc:jB k m i with
 |false=>exact(VB hE k m i hc).mono λy w' ⟨a,b⟩=>⟨.inl ⟨rfl,a⟩,b⟩
 |true=>
  obtain⟨h1,h2,h3,h4,h5,h6⟩:=K4 hc;refine(aeS H hE k m i hc k.toNat m.toNat i.toNat ⟨h1,h2,h4,h5,h6⟩ h3).mono ?_;rintro y w' ⟨b,G,rfl,a,d,e⟩;exact⟨.inr ⟨rfl,b,G,rfl,⟨[],a,rfl,λi hi=>by cases hi⟩,d⟩,e⟩
theorem YO (hE:Env W0 E w)(h3:bY E W0 3)(h8:bY E W0 8)(h9:bY E W0 9)(k m i:Int)(h:Reads w w.heap.size 5 A l.length (aQ l))(hn:l.length<=65536)(hwf:∀o∈l,pz o):
  Calls Tryz.prog 35 #[eX k m i,.slice A l.length c] w (agM W0 E k m i l w):=by
 have hB:=(Below.refl w.heap.size w).alloc (zb _) (.cells #[.int .i64 k,.int .i64 m,.int .i64 i] 23);have hX:=aj.new w 23 #[.int .i64 k,.int .i64 m,.int .i64 i];obtain⟨W,hW⟩:∃W,W=w.alloc (.cells #[.int .i64 k,.int .i64 m,.int .i64 i] 23):=⟨_,rfl⟩;rw[<-hW]at hB hX
 have hup:∀V,Below w.heap.size w V->Reads V V.heap.size 5 A l.length (aQ l):=λV hb=>by
  have h2:=h.below hb
  exact⟨h2.1,λhn=>by
   obtain⟨g,off,a,b,d⟩:=h2.2 hn
   exact⟨g,off,a,yp b hb.size,d⟩⟩
 have he:∀V j,Below w.heap.size w V->bY E W0 j->bY E V j:=λV j hb h=>h.of_block (hE.next hb).below.block;have Na:=qd hup;have yO:=qd he;have bI:=qd (And.intro hE (And.intro h3 (And.intro h8 h9)));have HN:=qd (And.intro hn hwf);have HB:=qd hB;have HX:=qd hX;have HW:=qd hW;clear hB hX hW hup he hE h3 h8 h9 h hwf;unfold eX;go_in;go_upto_region 1 with fail;rw[<-HW.o];have h9:bY E W 9:=yO.o W 9 HB.o bI.o.2.2.2;unfold bY at h9;simp only[gE]at h9;by_cases hlong:2000<l.length
 ·have zy:(2000:Int)<(l.length:Int):=by omega
  have HF:=qd (show fM k m i l=9 from by unfold fM kC;rw[if_pos hlong];rfl);go_upto_region 2 with fail;go_region;go_wp2;refine bodyPost_ret (v:= .tuple #[.pointer none,.iface 333 (.pointer (some (E 9)))]) (by simp[results,Tryz.results35,go_sem]) rfl ⟨.inl ⟨by rw[HF.o];decide,by rw[HF.o];rfl⟩,HB.o.drew⟩
 have zy:¬(2000:Int)<(l.length:Int):=by omega
 clear h9;have HC:=qd (K3 (c:=c) (Na.o W HB.o) HN.o.1);have Q5:=qd hlong;clear hlong;go_wp2_with fail;refine HC.o.mono ?_;rintro y w1 ⟨rfl,hb1⟩;have HB1:=qd (HB.o.trans (hb1.mono HB.o.size));have BK:=qd (HX.o.below hb1 HX.o.lt);clear hb1 HC HX HB HW
 cases hr:(l.any λo=> !fU o)with
 |true=>
  have h3:bY E w1 3:=yO.o w1 3 HB1.o bI.o.2.1;unfold bY at h3;simp only[gE]at h3;have HF:=qd (show fM k m i l=3 from by unfold fM kC;rw[if_neg Q5.o,if_pos hr];rfl);clear hr;go_upto_region 8 with fail;go_region;go_wp2;refine bodyPost_ret (v:= .tuple #[.pointer none,.iface 333 (.pointer (some (E 3)))]) (by simp[results,Tryz.results35,go_sem]) rfl ⟨.inl ⟨by rw[HF.o];decide,by rw[HF.o];rfl⟩,HB1.o.drew⟩
 |false=>
  have HR:=qd (show¬(l.any λo=> !fU o)=true from by rw[hr];decide);have JQ:=qd (FP A l.length c l w1 (Na.o w1 HB1.o) HN.o.1 HN.o.2);unfold CQ at JQ;clear hr;go_wp2_with fail;refine JQ.o.mono ?_;rintro y w2 ⟨hy,hb2⟩;have HB2:=qd (HB1.o.trans (hb2.mono HB1.o.size));have hX2:=BK.o.below hb2 BK.o.lt;clear hb2 JQ BK HB1
  cases ho:other l with
  |some j=>
   rw[ho]at hy;simp only at hy;subst hy;have h8:bY E w2 8:=yO.o w2 8 HB2.o bI.o.2.2.1;unfold bY at h8;simp only[gE]at h8;have HF:=qd (show fM k m i l=8 from by unfold fM kC;rw[if_neg Q5.o,if_neg HR.o,ho];rfl);clear ho hX2;go_upto_region 6 with fail;go_region;go_wp2;refine bodyPost_ret (v:= .tuple #[.pointer none,.iface 333 (.pointer (some (E 8)))]) (by simp[results,Tryz.results35,go_sem]) rfl ⟨.inl ⟨by rw[HF.o];decide,by rw[HF.o];rfl⟩,HB2.o.drew⟩
  |none=>
   rw[ho]at hy;simp only at hy;subst hy;have HF:=qd (show fM k m i l=if jB k m i=true then 0 else 1 from by unfold fM kC;rw[if_neg Q5.o,if_neg HR.o,ho];rfl);obtain⟨x0,x1,x2⟩:=hX2.c3;have jJ:=qd (YN (lg l) (bI.o.1.next HB2.o) k m i);unfold eX at jJ;clear ho hX2;go_wp2_with fail;refine jJ.o.mono ?_;rintro y w3 ⟨hy,hb3⟩;have HB3:=qd (HB2.o.trans (hb3.mono HB2.o.size));clear hb3;rcases hy with⟨hc,rfl⟩|⟨hc,b,G,rfl,hD,hG⟩
   ·have Df:=qd (show fM k m i l=1 from by rw[HF.o,hc];rfl);clear hc HF;rw[gH E (k:=1) (by decide)];go_wp2;refine bodyPost_ret (v:= .tuple #[.pointer none,.iface 333 (.pointer (some (E 1)))]) (by simp[results,Tryz.results35,go_sem]) rfl ⟨.inl ⟨by rw[Df.o];decide,by rw[Df.o];rfl⟩,HB3.o⟩
   ·have Df:=qd (show fM k m i l=0 from by rw[HF.o,hc];rfl);have HD:=qd (And.intro hD (show∀q∈G,w.heap.size<=q from λq hq=>qf HB2.o.size (hG q hq)));clear hc HF hD hG;go_wp2;refine bodyPost_ret (v:= .tuple #[pQ b,.nilIface]) (by simp[results,Tryz.results35,go_sem]) rfl ⟨.inr ⟨Df.o,b,G,rfl,HD.o⟩,HB3.o⟩
end
section
structure uz (base:Nat)(w:World)(t:TypeId)(sz:Nat)(v:Value)(n:Nat)(xs:List Value)(F:List Nat):Prop where
 row:w.ownsRow base t sz v n xs
 gs:∀g,v.ownBlock=some g->g∉F
section
variable {base n sz : Nat} {w w' : World} {t : TypeId} {v v' : Value} {xs ys : List Value} {F F' S : List Nat}
theorem Q6 (h:w.ownsRow base t sz v n xs)(hm:Mod S w w')(hS:∀k,v.ownBlock=some k->k∉S):w'.ownsRow base t sz v n xs:=by
 refine⟨h.1, ?_⟩;rcases h.2 with k|⟨g,cap,cur,h1,h2,h3,h4⟩
 ·exact .inl k
 ·refine .inr ⟨g,cap,cur,h1,h2, ?_,h4⟩;rw[hm.block g (qi.1 h3).1 (hS g (by rw[h1];rfl))];exact h3
theorem uz.nil (w:World)(base:Nat)(t:TypeId)(sz:Nat)(F:List Nat):uz base w t sz (.slice none 0 0) 0 [] F:=⟨World.ownsRow_nil _ _ _ _,λg hg=>by cases hg⟩
theorem uz.to (h:uz base w t sz v n xs F)(h2:∀q∈F',q∈F\/w.heap.size<=q)(hm:Mod F w w'):uz base w' t sz v n xs F':=
 ⟨Q6 h.row hm h.gs,λg hg hq=>(h2 g hq).elim (h.gs g hg) (λk=>by have:=(h.row.lt g hg).2;omega)⟩
theorem uz.below (h:uz base w t sz v n xs F)(hb:Below w.heap.size w w'):uz base w' t sz v n xs F:=⟨Q6 h.row (Mod.of_below hb []) (by simp),h.gs⟩
theorem uz.push (h:uz base w t sz v n xs F)(hg:o9 w base v w' v')(ho:w'.ownsRow base t sz v' (n+1) ys)(hF:∀q∈F,q<w.heap.size):uz base w' t sz v' (n+1) ys F:=by
 refine⟨ho,λg hgg=> ?_⟩;rcases hg.at_ with h1|⟨g2,h1,h2⟩
 ·rw[h1]at hgg;exact h.gs g hgg
 ·rw[h1]at hgg;cases hgg;exact λhq=>by have:=hF g hq;omega
theorem YP (h:o9 w base v w' v'):Mod v.ownBlock.toList w w':=⟨h.lH.os,h.lH.tape,h.lH.output,h.lH.size,λk hk hn=>h.lH.block k hk (λe=>hn (by simp[e]))⟩
end
theorem abH:(Tryz.prog.info? 56).map (λi=>(i.zero,i.size,i.bytes))=some (some (.agg #[.int .i64 0,.int .i64 0,.int .i64 0,.bool false,.int .u64 0,.int .u64 0,.nilIface]),7,64):=by kernel_rfl
theorem abI:sZ Tryz.prog 52 56 7 64:=BO Tryz.underlying52 abH rfl (by decide) (by decide)
def VN (W0:World)(E:Nat->Addr)(K M I b:Nat)(l:List aB)(w:World)(j:Nat)(v:Value)(wr:World):Prop:=
 ∃G us,gK W0 E (lg l) K M I b G wr (eG M I ko (l.take j))/\jS M I ko (l.take j) us/\us.length=j/\uz w.heap.size wr 56 7 v j (us.flatMap (qw E)) G/\(∀q∈G,w.heap.size<=q)/\Below w.heap.size w wr
def Q7 (W0:World)(E:Nat->Addr)(k m i:Int)(l:List aB)(w:World)(y:Ending)(w':World):Prop:=
 ((fM k m i l≠0/\y= .returned (.tuple #[.slice none 0 0,eT E (fM k m i l)]))\/
  (fM k m i l=0/\∃v us,y= .returned (.tuple #[v,.nilIface])/\w'.ownsRow w.heap.size 56 7 v us.length (us.flatMap (qw E))/\jS m.toNat i.toNat ko l us))/\Below w.heap.size w w'
structure afV (k m i:Int)(l:List aB):Prop where
 len:l.length<=2000
 right:∀o∈l,fU o=true
 free:free l
 cfg:jB k m i=true
theorem YQ {k m i:Int}{l:List aB}(h:fM k m i l=0):afV k m i l:=by
 unfold fM kC at h;by_cases h1:2000<l.length
 ·rw[if_pos h1,if_neg (by decide)]at h;cases h
 rw[if_neg h1]at h;by_cases h2:(l.any λo=> !fU o)=true
 ·rw[if_pos h2,if_neg (by decide)]at h;cases h
 rw[if_neg h2]at h;by_cases h3:(other l).isSome=true
 ·rw[if_pos h3,if_neg (by decide)]at h;cases h
 rw[if_neg h3,if_pos rfl]at h;by_cases h4:jB k m i=true
 ·refine⟨by omega,λo ho=> ?_,CK.1 (by simpa using h3),h4⟩
  cases hr:fU o with
  |true=>rfl
  |false=>exact absurd (QR.2 ⟨o,ho,by simp[hr]⟩) h2
 ·rw[if_neg h4]at h;cases h
theorem TS {W0:World}{E:Nat->Addr}{w:World}(hE:Env W0 E w)(h3:bY E W0 3)(h6:bY E W0 6)(h7:bY E W0 7)(h8:bY E W0 8)(h9:bY E W0 9)(k m i:Int){A:Option Addr}{c:Nat}{l:List aB}(h:Reads w w.heap.size 5 A l.length (aQ l))(hn:l.length<=65536)(hwf:∀o∈l,pz o):
  Calls Tryz.prog 16 #[eX k m i,.slice A l.length c] w (Q7 W0 E k m i l w):=by
 have hB:=(Below.refl w.heap.size w).alloc (zb _) (.cells #[.int .i64 k,.int .i64 m,.int .i64 i] 23);have hX:=aj.new w 23 #[.int .i64 k,.int .i64 m,.int .i64 i];obtain⟨W,hW⟩:∃W,W=w.alloc (.cells #[.int .i64 k,.int .i64 m,.int .i64 i] 23):=⟨_,rfl⟩;rw[<-hW]at hB hX
 have xH:Reads W W.heap.size 5 A l.length (aQ l):=by
  have h2:=h.below hB
  exact⟨h2.1,λhn=>by
   obtain⟨g,off,a,b,d⟩:=h2.2 hn
   exact⟨g,off,a,yp b hB.size,d⟩⟩
 have oD:=qd (YO (hE.next hB) h3 h8 h9 k m i (c:=c) xH hn hwf);have EI:=qd hE.size;have yO:=qd (And.intro h6 h7);have jT:=qd h;have oZ:=qd hwf;have HB:=qd hB;have HW:=qd hW;obtain⟨x0,x1,x2⟩:=hX.c3;clear hB hX hW xH hE h3 h6 h7 h8 h9 h hwf hn;unfold eX at oD|-;go_in;go_upto_region 1 with fail;rw[<-HW.o];go_wp2_with fail;refine oD.o.mono ?_;rintro y w1 ⟨hy,hb1⟩;have HB1:=qd (HB.o.trans (hb1.mono HB.o.size));clear hb1 oD x0 x1 x2;rcases hy with⟨hbg,rfl⟩|⟨hbg,b,G,rfl,hD,hG⟩
 ·obtain⟨e,he⟩:∃e,e=fM k m i l:=⟨_,rfl⟩;rw[<-he]at hbg;have HFin:=qd (show∀V,Below w.heap.size w V->Q7 W0 E k m i l w (.returned (.tuple #[.slice none 0 0,eT E e])) V from λV hV=>⟨.inl ⟨by rw[<-he];exact hbg,by rw[<-he]⟩,hV⟩);rw[<-he];rw[gH E (by omega)]at HFin|-;clear he hbg;go_wp2;refine bodyPost_ret (v:= .tuple #[.slice none 0 0,.iface 333 (.pointer (some (E e)))]) (by simp[results,Tryz.results16,go_sem]) rfl (HFin.o _ HB1.o)
 have uV:=qd (YQ hbg);have hcf:=K4 uV.o.cfg;obtain⟨K,hK⟩:∃K,K=k.toNat:=⟨_,rfl⟩;obtain⟨M,hM⟩:∃M,M=m.toNat:=⟨_,rfl⟩;obtain⟨I,hI⟩:∃I,I=i.toNat:=⟨_,rfl⟩;rw[<-hK,<-hM,<-hI]at hD;have HMI:=qd (show 1<=M/\1<=I by omega);have HFin:=qd (show∀V v us,w.heap.size<=V.heap.size->Below w.heap.size w V->V.ownsRow w.heap.size 56 7 v us.length (us.flatMap (qw E))->jS M I ko l us->Q7 W0 E k m i l w (.returned (.tuple #[v,.nilIface])) V from λV v us _ hV ho ha=>⟨.inr ⟨hbg,v,us,rfl,ho,by rw[<-hM,<-hI];exact ha⟩,hV⟩);have nD:Hqq (VN W0 E K M I b l w 0 (.slice none 0 0) w1):=qd ⟨G,[],hD,trivial,rfl,uz.nil _ _ _ _ _,λq hq=>qf HB.o.size (hG q hq),HB1.o⟩;clear hcf hK hM hI hD hG hbg HB1 HB HW;go_wp2;go_loopw [8,24] (λv8 v24 wr=>∃j:Nat,j<=l.length/\v24=nI j/\Hqq (VN W0 E K M I b l w j v8 wr)) (λ_ v24 _=>l.length-(intOf v24).toNat)
 case atStart=>exact⟨0,by omega,rfl,nD⟩
 case round=>
  clear nD;obtain⟨j,hj,rfl,nD⟩:=hrel;by_cases hlt:j<l.length
  ·have ho:l[j]?=some (l[j]'hlt):=zg _;generalize l[j]'hlt=o at ho;obtain⟨G1,us,hD,ha,YR,hO,hG1,hbr⟩:=nD.o;obtain⟨gb,off,rfl,hb,c0,c1,c2,c3,c4⟩:=jE (jT.o.below hbr) ho
   have hlt':(j:Int)<(l.length:Int):=by omega
   have hj0:(0:Int)<=(j:Int):=by omega
   have hl2:=uV.o.len
   have TT:IntKind.i64.wrap ((j:Int)+1)=((j+1:Nat):Int):=by rw[ZZ];omega
   have hmem:=zE ho;have hgv:=CO M I (l.take j) ko
   have hgl:(l.take j).length<=j:=by rw[qn];omega
   have HO:=qd (And.intro hO (And.intro hG1 hbr));have HA:=qd (And.intro ha YR);have HT:=qd (iy ho);have HD:=qd hD;have YS:=qd (λ(V:World) (hV:Below wr.heap.size wr V)=>YK (hD.below hV) o (uV.o.right o hmem) (oZ.o o hmem) (λhk=>Ir uV.o.free oZ.o hmem hk) (Iq oZ.o) (by have:ko.gv=0:=rfl;omega) HMI.o yO.o.1 yO.o.2);clear hD ha YR hO hG1 hbr hmem hgv hgl ho hb;go_upto_region 8 with fail;refine aY (F:=λv=>aj v wr.heap.size 45 #[.int .i64 o.kind,.int .u64 o.key,.int .u64 o.val,.int .u64 o.hash,.int .i64 o.iter]/\Below wr.heap.size wr v) ⟨aj.new wr 45 #[.int .i64 o.kind,.int .u64 o.key,.int .u64 o.val,.int .u64 o.hash,.int .i64 o.iter],(Below.refl wr.heap.size wr).alloc (zb _) _⟩ ?_;rintro w2 ⟨hX2,hb2⟩;obtain⟨x0,x1,x2,x3,x4⟩:=hX2.c5;have hdo:=YS.o w2 hb2;unfold oq at hdo;have Q8:=qd hdo;have uQ:=qd (And.intro (HO.o.1.below hb2) (HO.o.2.2.trans (hb2.mono HO.o.2.2.size)));have HD2:=qd (HD.o.below hb2);obtain⟨xb,hxb⟩:∃xb,xb=wr.heap.size:=⟨_,rfl⟩;have YL:=qd (show w.heap.size<=w2.heap.size from uQ.o.2.size);rw[<-hxb]at x0 x1 x2 x3 x4|-;clear hX2 hb2 hdo YS hxb c0 c1 c2 c3 c4;go_wp2_with fail;refine Q8.o.mono ?_;rintro y w4 ⟨a,rfl,hao,hto⟩;obtain⟨G4,hD4,hs4,dO⟩:=hto;have HD4:=qd hD4;have YT:=qd (And.intro (uQ.o.1.to hs4 dO) (And.intro (show∀q∈G4,w.heap.size<=q from λq hq=>(hs4 q hq).elim (HO.o.2.1 q) (qf YL.o)) (uQ.o.2.trans (dO.below (λq hq=>HO.o.2.1 q hq) YL.o))))
   have HAo:=qd (jS.snoc HA.o.1 hao);have HUl:=qd HA.o.2;clear hD4 hs4 dO hao HA Q8 uQ HD2 HO HD;have hcl:(qw E a)=[.int .i64 a.kind,.int .i64 a.iter,.int .i64 a.state,.bool a.is,nU a.key,nU a.val,eT E a.err]:=rfl;have zJ:=qd hcl;clear hcl;unfold rO;rcases oI E a.err with hu|⟨Ae,hu⟩
   all_goals
    have hcl:=zJ.o;rw[hu]at hcl|-;have sO:=qd hcl;clear hu hcl zJ;go_upto_region 9 with fail
    first
     |refine aY (F:=λv=>aj v w4.heap.size 56 #[.int .i64 a.kind,.int .i64 a.iter,.int .i64 a.state,.bool a.is,nU a.key,nU a.val,.nilIface]/\Below w4.heap.size w4 v) ⟨aj.new w4 56 #[.int .i64 a.kind,.int .i64 a.iter,.int .i64 a.state,.bool a.is,nU a.key,nU a.val,.nilIface],(Below.refl w4.heap.size w4).alloc (zb _) _⟩ ?_
     |refine aY (F:=λv=>aj v w4.heap.size 56 #[.int .i64 a.kind,.int .i64 a.iter,.int .i64 a.state,.bool a.is,nU a.key,nU a.val,.iface 333 (.pointer (some Ae))]/\Below w4.heap.size w4 v) ⟨aj.new w4 56 #[.int .i64 a.kind,.int .i64 a.iter,.int .i64 a.state,.bool a.is,nU a.key,nU a.val,.iface 333 (.pointer (some Ae))],(Below.refl w4.heap.size w4).alloc (zb _) _⟩ ?_
    rintro w5 ⟨hX5,hb5⟩;obtain⟨x0,x1,x2,x3,x4,x5,x6⟩:=hX5.c7;have Q9:=qd (And.intro (YT.o.1.below hb5) (And.intro YT.o.2.1 (YT.o.2.2.trans (hb5.mono YT.o.2.2.size))));have HD5:=qd (HD4.o.below hb5);obtain⟨ab,hab⟩:∃ab,ab=w4.heap.size:=⟨_,rfl⟩;rw[<-hab]at x0 x1 x2 x3 x4 x5 x6|-;have hrow:=Q9.o.1.row;obtain⟨Ar,cr,hvr⟩:=bq hrow;subst hvr;have hbs:=Q9.o.2.2.size;clear hX5 hb5 hab YT HD4;go_wp2_with (at_builtin;refine gD rfl rfl abI hrow rfl rfl rfl rfl rfl (by omega) (by omega) ?_;intro v7 w7 Dh Ra)
    have Rb:Hqq (VN W0 E K M I b l w (j+1) v7 w7):=qd (by
     refine⟨G4,us++[a], ?_, ?_,by rw[ZD,HUl.o];rfl, ?_,Q9.o.2.1,Q9.o.2.2.trans Ra.below⟩
     ·rw[HT.o,E8];exact HD5.o.mod (YP Ra) (λq hq=>⟨Q9.o.1.gs q (by simpa using hq),qf EI.o (Q9.o.1.row.lt q (by simpa using hq)).1⟩)
     ·rw[HT.o];exact HAo.o
     ·have:=Q9.o.1.push Ra Dh (λq hq=>(HD5.o.fC q hq).1);rw[ka,yn,List.flatMap_nil,yy,sO.o]
      simpa using this)
    have HM:=qd (show l.length-(j+1)<l.length-j by omega);clear Dh Ra hrow nD;go_wp2;go_roundw
    case measure=>simp[intOf];exact HM.o
    exact⟨j+1,by omega,rfl,Rb⟩
  ·obtain rfl:j=l.length:=by omega
   have hlt':¬(l.length:Int)<(l.length:Int):=by omega
   obtain⟨G1,us,hD,ha,YR,hO,hG1,hbr⟩:=nD.o;rw[yr]at ha;obtain⟨Ar,cr,hvr⟩:=bq hO.row;subst hvr;have hfin:=HFin.o wr _ us hbr.size hbr (by rw[YR];exact hO.row) ha;have HF:=qd hfin;clear hfin hD ha YR hO hG1 hbr;go_wp2;refine bodyPost_ret (v:= .tuple #[.slice Ar l.length cr,.nilIface]) (by simp[results,Tryz.results16,go_sem]) rfl HF.o
end
