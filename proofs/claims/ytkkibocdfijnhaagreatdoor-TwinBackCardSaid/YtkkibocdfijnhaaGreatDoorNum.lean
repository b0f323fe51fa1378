/- script.Consistent and script.Hashes by their contracts. -/
import Derived.Test.YtkkibocdfijnhaaGreatDoorRunA
import Derived.Test.YtkkibocdfijnhaaGreatDoorLaneP
import Derived.Test.YtkkibocdfijnhaaGreatDoorMapF
import Derived.Test.YtkkibocdfijnhaaGreatDoorCoI
namespace Go.Proofs.YtkkibocdfijnhaaGreatDoor
set_option maxRecDepth 100000
set_option maxHeartbeats 8000000
open Go.RowKit tF Go.Maps bV
section
variable {w w' : World} {r : Option Nat}
theorem F5 (w:World):(zeroValue 35).run Tryz.prog w= .ok (.int .u64 0) w:=by kernel_rfl
theorem Bo (w:World):(zeroValue 3).run Tryz.prog w= .ok (.int .i64 0) w:=by kernel_rfl
def Bp (w:World)(r:Option Nat)(e:Ending)(w':World):Prop:=
 (match r with
  |some i=>e= .returned (.tuple #[nI i,.bool false])
  |none=>e= .returned (.tuple #[.int .i64 0,.bool true]))∧Below w.heap.size w w'
theorem Y6 {i:Nat}(h:r=some i)(hb:Below w.heap.size w w'):Bp w r (.returned (.tuple #[nI i,.bool false])) w':=by
 subst h;exact⟨rfl,hb⟩
theorem Y7 (h:r=none)(hb:Below w.heap.size w w'):Bp w r (.returned (.tuple #[.int .i64 0,.bool true])) w':=by
 subst h;exact⟨rfl,hb⟩
structure ac5 (w:World)(l:List aV)(R:Option Nat)(k:Nat)(wr:World):Prop where
 rest:pz (l.take k) (l.drop k)=R
 free:free (l.take k)
 map:gW wr Tryz.prog 35 35 .u64 .u64 w.heap.size k (known (l.take k))
 below:Below w.heap.size w wr
theorem Ee (A:Option Addr)(n c:Nat)(l:List aV)(w:World)(h:Reads w w.heap.size 5 A n (dR l))(hn:n≤65536)(hwf:∀o∈l,Dz o):
  Calls Tryz.prog 47 #[.slice A n c] w (Bp w (other l)):=by
 have hl:l.length=n:=by have:=h.1;rw[jP]at this;omega
 generalize hR:other l=R;have HR:=qd (show pz (l.take 0) (l.drop 0)=R from by simpa[other]using hR);clear hR;have hmm:=@run_makeMap Tryz.prog;go_in;go_wp2;go_loopw [5,6,7,8,12] (fun _ _ _ _ i wr=>∃k:Nat,k≤n∧i= .int .i64 k∧ac5 w l R k wr) (fun _ _ _ _ i _=>n-(intOf i).toNat)
 case atStart=>exact⟨0,by omega,rfl,HR.out,OT,gW.made _ _ _ _ _ _,(Below.refl _ _).alloc (Nat.le_refl _) _⟩
 case round=>
  obtain⟨k,hk,rfl,hc⟩:=hrel;by_cases hlt:k<n
  ·have ho:l[k]?=some (l[k]'(by omega)):=List.getElem?_eq_getElem _;have hw0:=hwf _ (List.getElem_mem (show k<l.length by omega));generalize l[k]'(by omega)=o at ho hw0;obtain⟨b,off,rfl,hb,c0,c1,c2,c3,c4⟩:=yh (h.below hc.below) ho;have hrest:=hc.rest;rw[abo ho,pz]at hrest;have hfree:=hc.free;have hkn:=Bj (l.take k) o;have tJ:=PS hfree o;have htk:=sI ho
   have hlen:(l.take k).length=k:=by rw[List.length_take];omega
   rw[hlen,←htk]at hrest;rw[←htk]at hkn;have hsn:=KW (o:=o) hfree;rw[←htk]at hsn;obtain⟨_,_,w2,w3,_,_,w6,w7,_,_⟩:=hw0;have hwk:=qd (wf_u64 w2 w3);have hwh:=qd (wf_u64 w6 w7);have hmap:=hc.map;have hbel:=hc.below;clear hc ho htk hlen
   have hlt':(k:Int)<(n:Int):=by omega
   cases hK:eG o.kind with
   |false=>
    rw[hK,Bool.false_and]at tJ;rw[tJ,if_neg (by simp)]at hrest
    have hk2:known (l.take (k+1))=known (l.take k):=by rw[hkn,uq,hK];rfl
    have wL:=qd hrest;have HF:=qd (hsn tJ);have HK2:=qd hk2;have HK:=qd (show∀W,Calls Tryz.prog 37 #[.int .i64 o.kind] W fun e w'=>e= .returned (.bool false)∧W=w' from fun W=>by have:=oV o.kind W;rw[hK]at this;exact this);clear hrest hkn tJ hsn hfree hk2 hK;go_wp2_with (go_at_call 37;refine(HK.out _).mono ?_;rintro e w1 ⟨rfl,rfl⟩);go_roundw
    case rel=>exact⟨k+1,by omega,by go_num,wL.out,HF.out,by rw[HK2.out];obtain⟨D,d1,d2⟩:=hmap.alloc _;exact⟨D,d1.mono (by omega),d2⟩,hbel.alloc hbel.size _⟩
    case measure=>first|(simp[intOf];done)|(simp[intOf];omega)
   |true=>
    rw[hK,Bool.true_and]at tJ;have HK:=qd (show∀W,Calls Tryz.prog 37 #[.int .i64 o.kind] W fun e w'=>e= .returned (.bool true)∧W=w' from fun W=>by have:=oV o.kind W;rw[hK]at this;exact this)
    have hk2:known (l.take (k+1))=fun y=>if y=o.key then some o.hash else known (l.take k) y:=by rw[hkn,uq,hK];rfl
    have HK2:=qd hk2;clear hkn hk2 hK
    cases hf:known (l.take k) o.key with
    |none=>
     rw[hf]at tJ;rw[tJ,if_neg (by simp)]at hrest;have wL:=qd hrest;have HF:=qd (hsn tJ);have Hf:=qd hf;clear hrest tJ hsn hfree hf
     go_wp2_with (first
      |(go_at_call 37;refine(HK.out _).mono ?_;rintro e w1 ⟨rfl,rfl⟩)
      |(at_lookup;refine uw rfl _ _ rfl Tryz.underlying35 Tryz.underlying154 Tryz.underlying35 (F5 _) rfl (hmap.alloc _) o.key rfl hwk.out ?_;rw[Hf.out])
      |(at_mapUpdate;refine oq rfl _ _ _ rfl Tryz.underlying35 Tryz.underlying154 Tryz.underlying35 rfl (hmap.alloc _) (by unfold maxLen;omega) o.key o.hash rfl rfl hwk.out hwh.out ?_;intro w2 hm2 hg2))
     go_roundw
     case rel=>exact⟨k+1,by omega,by go_num,wL.out,HF.out,by rw[HK2.out];exact hm2,(hbel.alloc hbel.size _).grown hg2 (by have:=hbel.size;simp;omega) (fun j hj=>by cases hj;exact Nat.le_refl _)⟩
     case measure=>first|(simp[intOf];done)|(simp[intOf];omega)
    |some hv=>
     rw[hf]at tJ;simp only at tJ;have Hf:=qd hf;clear hf;by_cases hh:hv=o.hash
     ·have hne:(hv !=o.hash)=false:=by simp[hh]
      rw[hne]at tJ;rw[tJ,if_neg (by simp)]at hrest;have wL:=qd hrest;have HF:=qd (hsn tJ);clear hrest tJ hsn hfree hh
      go_wp2_with (first
       |(go_at_call 37;refine(HK.out _).mono ?_;rintro e w1 ⟨rfl,rfl⟩)
       |(at_lookup;refine uw rfl _ _ rfl Tryz.underlying35 Tryz.underlying154 Tryz.underlying35 (F5 _) rfl (hmap.alloc _) o.key rfl hwk.out ?_;rw[Hf.out])
       |(at_mapUpdate;refine oq rfl _ _ _ rfl Tryz.underlying35 Tryz.underlying154 Tryz.underlying35 rfl (hmap.alloc _) (by unfold maxLen;omega) o.key o.hash rfl rfl hwk.out hwh.out ?_;intro w2 hm2 hg2))
      go_roundw
      case rel=>exact⟨k+1,by omega,by go_num,wL.out,HF.out,by rw[HK2.out];exact hm2,(hbel.alloc hbel.size _).grown hg2 (by have:=hbel.size;simp;omega) (fun j hj=>by cases hj;exact Nat.le_refl _)⟩
      case measure=>first|(simp[intOf];done)|(simp[intOf];omega)
     ·have hne:(hv !=o.hash)=true:=by simp[hh]
      rw[hne]at tJ;rw[tJ,if_pos rfl]at hrest;have wL:=qd hrest;clear hrest tJ hsn hfree hh
      go_wp2_with (first
       |(go_at_call 37;refine(HK.out _).mono ?_;rintro e w1 ⟨rfl,rfl⟩)
       |(at_lookup;refine uw rfl _ _ rfl Tryz.underlying35 Tryz.underlying154 Tryz.underlying35 (F5 _) rfl (hmap.alloc _) o.key rfl hwk.out ?_;rw[Hf.out]))
      go_ret2;exact Y6 wL.out.symm (hbel.alloc hbel.size _)
  ·obtain rfl:k=n:=by omega
   have hrest:=hc.rest;rw[List.drop_eq_nil_of_le (by omega),pz]at hrest;have wL:=qd hrest;have hbel:=hc.below;clear hrest hc;go_wp2;go_ret2;exact Y7 wL.out.symm hbel
end
section
variable {A : Option Addr} {c n : Nat} {l : List aV} {W0 w : World} {E : Nat → Addr}
def Tc (z:Int)(b:Bool):Prop:=decide (z≥0)=b
theorem abr (h:Reads w w.heap.size 5 A n (dR l))(hn:n≤65536)(g:Nat)(eg:∀args w,(callFunc g args).run Tryz.prog w= .ok (.enter g args) w)(p:aV→Bool)(hp:∀(W:World) (o:aV),o∈l→Calls Tryz.prog g #[BP o] W fun e W'=>e= .returned (.bool (p o))∧Below W.heap.size W W'):
  Calls Tryz.prog 77 #[.slice A n c,.func (.func g) #[] #[]] w fun e w'=>∃z:Int,e= .returned (.int .i64 z)∧Tc z (l.any p)∧Below w.heap.size w w':=by
 have hl:l.length=n:=by have:=h.1;rw[jP]at this;omega
 have HL:=qd hl;have HP:=qd hp;clear hl hp;go_in;go_wp2;go_loopw [4,5,8] (fun _ _ i wr=>∃k:Nat,k≤n∧i= .int .i64 k∧Hid ((l.take k).any p=false)∧Hid (Below w.heap.size w wr)) (fun _ _ i _=>n-(intOf i).toNat)
 case atStart=>exact⟨0,by omega,rfl,qd (by simp),qd (Below.refl _ _)⟩
 case round=>
  obtain⟨k,hk,rfl,HA,HB⟩:=hrel;by_cases hlt:k<n
  ·have ho:l[k]?=some (l[k]'(by rw[HL.out];omega)):=List.getElem?_eq_getElem _;generalize l[k]'(by rw[HL.out];omega)=o at ho;obtain⟨b,off,rfl,hb,c0,c1,c2,c3,c4⟩:=yh (h.below HB.out) ho
   have hlt':(k:Int)<(n:Int):=by omega
   have hk0:(0:Int)≤(k:Int):=by omega
   have hwk:IntKind.i64.wrap ((k:Int)+1)=((k+1:Nat):Int):=by rw[IntKind.wrap_i64];omega
   have HF:=qd (HP.out wr o (List.mem_of_getElem? ho));have HT:=qd (sI ho);have HM:=qd (List.mem_of_getElem? ho);clear ho
   cases hq:p o with
   |false=>
    have HQ:=qd hq;rw[hq]at HF;unfold BP at HF;clear hq;go_wp2_with (go_at_fn g;refine HF.out.mono ?_;rintro e w1 ⟨rfl,hb1⟩;have HB1:=qd (HB.out.trans (hb1.mono HB.out.size)));go_roundw
    case rel=>exact⟨k+1,by omega,by go_num,qd (by rw[HT.out,List.any_append,HA.out];simp[HQ.out]),HB1⟩
    case measure=>simp[intOf];omega
   |true=>
    have HQ:=qd hq;rw[hq]at HF;unfold BP at HF;clear hq;go_wp2_with (go_at_fn g;refine HF.out.mono ?_;rintro e w1 ⟨rfl,hb1⟩;have HB1:=qd (HB.out.trans (hb1.mono HB.out.size)));refine bodyPost_ret (v:=nI k) (by simp[results,Tryz.results77,go_sem]) rfl ⟨k,rfl, ?_,HB1.out⟩;unfold Tc;rw[List.any_eq_true.2 ⟨o,HM.out,HQ.out⟩];simp
  ·obtain rfl:k=n:=by omega
   have hlt':¬(k:Int)<(k:Int):=by omega
   have ha:=HA.out;rw[←HL.out,List.take_length]at ha;have HA2:=qd ha;clear ha HA;go_wp2;refine bodyPost_ret (v:= .int .i64 (-1)) (by simp[results,Tryz.results77,go_sem]) rfl ⟨-1,rfl, ?_,HB.out⟩;unfold Tc;rw[HA2.out];simp
theorem Wj (o:aV)(w:World):Calls Tryz.prog 46 #[BP o] w fun e w'=>e= .returned (.bool (!jZ o))∧Below w.heap.size w w':=by
 have KY:∀V,Calls Tryz.prog 29 #[BP o] V fun y w'=>y= .returned (.bool (jZ o))∧Below V.heap.size V w':=fun V=>(DC o V).mono fun y w' ⟨a,e⟩=>⟨a,e▸(Below.refl _ _).alloc (Nat.le_refl _) _⟩;have hX:=aj.new w 40 #[.int .i64 o.kind,.int .u64 o.key,.int .u64 o.val,.int .u64 o.hash,.int .i64 o.iter];have hB:=(Below.refl w.heap.size w).alloc (Nat.le_refl _) (.cells #[.int .i64 o.kind,.int .u64 o.key,.int .u64 o.val,.int .u64 o.hash,.int .i64 o.iter] 40);unfold BP at KY⊢;have HRt:=qd KY;obtain⟨W,hW⟩:∃W,W=w.alloc (.cells #[.int .i64 o.kind,.int .u64 o.key,.int .u64 o.val,.int .u64 o.hash,.int .i64 o.iter] 40):=⟨_,rfl⟩;rw[←hW]at hX hB;obtain⟨x0,x1,x2,x3,x4⟩:=hX.c5;have HB:=qd hB;have HW:=qd hW;clear hX hB KY hW;go_in;go_upto_region 1 with fail;rw[←HW.out];go_wp2_with fail;refine(HRt.out W).mono ?_;rintro y w1 ⟨rfl,hb1⟩;have HB1:=qd (HB.out.trans (hb1.mono HB.out.size));clear hb1;go_wp2;go_ret;exact⟨rfl,HB1.out⟩
theorem Ju (h:Reads w w.heap.size 5 A n (dR l))(hn:n≤65536):
  Calls Tryz.prog 45 #[.slice A n c,.func (.func 46) #[] #[]] w fun e w'=>e= .returned (.bool (l.any fun o=> !jZ o))∧Below w.heap.size w w':=by
 have HC:=qd (abr (c:=c) h hn 46 (fun args w=>enters_of Tryz.func46 (by kernel_rfl) rfl args w) (fun o=> !jZ o) (fun W o _=>Wj o W));clear h;go_in;go_wp2_with fail;refine HC.out.mono ?_;rintro y w1 ⟨z,rfl,hz,hb⟩;have HZ:=qd hz;have HB:=qd hb;clear hz hb HC;go_wp2;go_ret;exact⟨by have:=HZ.out;unfold Tc at this;rw[←this];rfl,HB.out⟩
def F7 (l:List aV):Nat:=if 2000<l.length then 9 else if(l.any fun o=> !jZ o)=true then 3 else if(other l).isSome=true then 8 else 0
def jU (k m i:Int)(l:List aV):Nat:=if F7 l=0 then(if jM k m i=true then 0 else 1)else F7 l
def aew (W0:World)(E:Nat→Addr)(k m i:Int)(l:List aV)(w:World)(y:Ending)(w':World):Prop:=
 ((jU k m i l≠0∧y= .returned (.tuple #[.pointer none,dK E (jU k m i l)]))∨
  (jU k m i l=0∧∃b G,y= .returned (.tuple #[pQ b,.nilIface])∧gH W0 E (Bl l) k.toNat m.toNat i.toNat b G w' vZ∧∀q∈G,w.heap.size≤q))∧Below w.heap.size w w'
theorem QY {k m i:Int}(h:jM k m i=true):(1≤k.toNat∧k.toNat≤64)∧(1≤m.toNat∧m.toNat≤192)∧(1≤i.toNat∧i.toNat≤8)∧k=(k.toNat:Int)∧m=(m.toNat:Int)∧i=(i.toNat:Int):=by
 unfold jM zY at h;simp at h;omega
theorem Wl (H:Nat→Nat)(hE:Env W0 E w)(k m i:Int):Calls Tryz.prog 15 #[fZ k m i] w fun y w'=>
  ((jM k m i=false∧y= .returned (.tuple #[.pointer none,dK E 1]))∨(jM k m i=true∧∃b G,y= .returned (.tuple #[pQ b,.nilIface])∧gH W0 E H k.toNat m.toNat i.toNat b G w' vZ∧∀q∈G,w.heap.size≤q))∧Below w.heap.size w w':=by
 cases hc:jM k m i with
 |false=>exact(SK hE k m i hc).mono fun y w' ⟨a,b⟩=>⟨.inl ⟨rfl,a⟩,b⟩
 |true=>
  obtain⟨h1,h2,h3,h4,h5,h6⟩:=QY hc;refine(acJ H hE k m i hc k.toNat m.toNat i.toNat ⟨h1,h2,h4,h5,h6⟩ h3).mono ?_;rintro y w' ⟨b,G,rfl,a,d,e⟩;exact⟨.inr ⟨rfl,b,G,rfl,⟨[],a,rfl,fun i hi=>by cases hi⟩,d⟩,e⟩
theorem Wm (hE:Env W0 E w)(h3:bX E W0 3)(h8:bX E W0 8)(h9:bX E W0 9)(k m i:Int)(h:Reads w w.heap.size 5 A l.length (dR l))(hn:l.length≤65536)(hwf:∀o∈l,Dz o):
  Calls Tryz.prog 23 #[fZ k m i,.slice A l.length c] w (aew W0 E k m i l w):=by
 have hB:=(Below.refl w.heap.size w).alloc (Nat.le_refl _) (.cells #[.int .i64 k,.int .i64 m,.int .i64 i] 23);have hX:=aj.new w 23 #[.int .i64 k,.int .i64 m,.int .i64 i];obtain⟨W,hW⟩:∃W,W=w.alloc (.cells #[.int .i64 k,.int .i64 m,.int .i64 i] 23):=⟨_,rfl⟩;rw[←hW]at hB hX
 have hup:∀V,Below w.heap.size w V→Reads V V.heap.size 5 A l.length (dR l):=fun V hb=>by
  have h2:=h.below hb
  exact⟨h2.1,fun hn=>by
   obtain⟨g,off,a,b,d⟩:=h2.2 hn
   exact⟨g,off,a,Nat.lt_of_lt_of_le b hb.size,d⟩⟩
 have he:∀V j,Below w.heap.size w V→bX E W0 j→bX E V j:=fun V j hb h=>h.of_block (hE.next hb).below.block;have HUp:=qd hup;have BD:=qd he;have bJ:=qd (And.intro hE (And.intro h3 (And.intro h8 h9)));have HN:=qd (And.intro hn hwf);have HB:=qd hB;have HX:=qd hX;have HW:=qd hW;clear hB hX hW hup he hE h3 h8 h9 h hwf;unfold fZ;go_in;go_upto_region 1 with fail;rw[←HW.out];have h9:bX E W 9:=BD.out W 9 HB.out bJ.out.2.2.2;unfold bX at h9;simp only[gE]at h9;by_cases hlong:2000<l.length
 ·have ac6:(2000:Int)<(l.length:Int):=by omega
  have HF:=qd (show jU k m i l=9 from by unfold jU F7;rw[if_pos hlong];rfl);go_upto_region 2 with fail;go_region;go_wp2;refine bodyPost_ret (v:= .tuple #[.pointer none,.iface 318 (.pointer (some (E 9)))]) (by simp[results,Tryz.results23,go_sem]) rfl ⟨.inl ⟨by rw[HF.out];decide,by rw[HF.out];rfl⟩,HB.out.drew⟩
 have ac6:¬(2000:Int)<(l.length:Int):=by omega
 clear h9;have HC:=qd (Ju (c:=c) (HUp.out W HB.out) HN.out.1);have HLg:=qd hlong;clear hlong;go_wp2_with fail;refine HC.out.mono ?_;rintro y w1 ⟨rfl,hb1⟩;have HB1:=qd (HB.out.trans (hb1.mono HB.out.size));have tH:=qd (HX.out.below hb1 HX.out.lt);clear hb1 HC HX HB HW
 cases hr:(l.any fun o=> !jZ o)with
 |true=>
  have h3:bX E w1 3:=BD.out w1 3 HB1.out bJ.out.2.1;unfold bX at h3;simp only[gE]at h3;have HF:=qd (show jU k m i l=3 from by unfold jU F7;rw[if_neg HLg.out,if_pos hr];rfl);clear hr;go_upto_region 8 with fail;go_region;go_wp2;refine bodyPost_ret (v:= .tuple #[.pointer none,.iface 318 (.pointer (some (E 3)))]) (by simp[results,Tryz.results23,go_sem]) rfl ⟨.inl ⟨by rw[HF.out];decide,by rw[HF.out];rfl⟩,HB1.out.drew⟩
 |false=>
  have HR:=qd (show¬(l.any fun o=> !jZ o)=true from by rw[hr];decide);have Ig:=qd (Ee A l.length c l w1 (HUp.out w1 HB1.out) HN.out.1 HN.out.2);unfold Bp at Ig;clear hr;go_wp2_with fail;refine Ig.out.mono ?_;rintro y w2 ⟨hy,hb2⟩;have HB2:=qd (HB1.out.trans (hb2.mono HB1.out.size));have hX2:=tH.out.below hb2 tH.out.lt;clear hb2 Ig tH HB1
  cases ho:other l with
  |some j=>
   rw[ho]at hy;simp only at hy;subst hy;have h8:bX E w2 8:=BD.out w2 8 HB2.out bJ.out.2.2.1;unfold bX at h8;simp only[gE]at h8;have HF:=qd (show jU k m i l=8 from by unfold jU F7;rw[if_neg HLg.out,if_neg HR.out,ho];rfl);clear ho hX2;go_upto_region 6 with fail;go_region;go_wp2;refine bodyPost_ret (v:= .tuple #[.pointer none,.iface 318 (.pointer (some (E 8)))]) (by simp[results,Tryz.results23,go_sem]) rfl ⟨.inl ⟨by rw[HF.out];decide,by rw[HF.out];rfl⟩,HB2.out.drew⟩
  |none=>
   rw[ho]at hy;simp only at hy;subst hy;have HF:=qd (show jU k m i l=if jM k m i=true then 0 else 1 from by unfold jU F7;rw[if_neg HLg.out,if_neg HR.out,ho];rfl);obtain⟨x0,x1,x2⟩:=hX2.c3;have jL:=qd (Wl (Bl l) (bJ.out.1.next HB2.out) k m i);unfold fZ at jL;clear ho hX2;go_wp2_with fail;refine jL.out.mono ?_;rintro y w3 ⟨hy,hb3⟩;have HB3:=qd (HB2.out.trans (hb3.mono HB2.out.size));clear hb3;rcases hy with⟨hc,rfl⟩|⟨hc,b,G,rfl,hD,hG⟩
   ·have BA:=qd (show jU k m i l=1 from by rw[HF.out,hc];rfl);clear hc HF;rw[fI E (k:=1) (by decide)];go_wp2;refine bodyPost_ret (v:= .tuple #[.pointer none,.iface 318 (.pointer (some (E 1)))]) (by simp[results,Tryz.results23,go_sem]) rfl ⟨.inl ⟨by rw[BA.out];decide,by rw[BA.out];rfl⟩,HB3.out⟩
   ·have BA:=qd (show jU k m i l=0 from by rw[HF.out,hc];rfl);have HD:=qd (And.intro hD (show∀q∈G,w.heap.size≤q from fun q hq=>Nat.le_trans HB2.out.size (hG q hq)));clear hc HF hD hG;go_wp2;refine bodyPost_ret (v:= .tuple #[pQ b,.nilIface]) (by simp[results,Tryz.results23,go_sem]) rfl ⟨.inr ⟨BA.out,b,G,rfl,HD.out⟩,HB3.out⟩
end
section
structure pW (base:Nat)(w:World)(t:TypeId)(sz:Nat)(v:Value)(n:Nat)(xs:List Value)(F:List Nat):Prop where
 row:w.ownsRow base t sz v n xs
 gs:∀g,v.ownBlock=some g→g∉F
section
variable {base n sz : Nat} {w w' : World} {t : TypeId} {v v' : Value} {xs ys : List Value} {F F' S : List Nat}
theorem F8 (h:w.ownsRow base t sz v n xs)(hm:Mod S w w')(hS:∀k,v.ownBlock=some k→k∉S):w'.ownsRow base t sz v n xs:=by
 refine⟨h.1, ?_⟩;rcases h.2 with k|⟨g,cap,cur,h1,h2,h3,h4⟩
 ·exact .inl k
 ·refine .inr ⟨g,cap,cur,h1,h2, ?_,h4⟩;rw[hm.block g (Array.getElem?_eq_some_iff.1 h3).1 (hS g (by rw[h1];rfl))];exact h3
theorem pW.nil (w:World)(base:Nat)(t:TypeId)(sz:Nat)(F:List Nat):pW base w t sz (.slice none 0 0) 0 [] F:=⟨World.ownsRow_nil _ _ _ _,fun g hg=>by cases hg⟩
theorem pW.to (h:pW base w t sz v n xs F)(h2:∀q∈F',q∈F∨w.heap.size≤q)(hm:Mod F w w'):pW base w' t sz v n xs F':=
 ⟨F8 h.row hm h.gs,fun g hg hq=>(h2 g hq).elim (h.gs g hg) (fun k=>by have:=(h.row.lt g hg).2;omega)⟩
theorem pW.below (h:pW base w t sz v n xs F)(hb:Below w.heap.size w w'):pW base w' t sz v n xs F:=⟨F8 h.row (Mod.of_below hb []) (by simp),h.gs⟩
theorem pW.push (h:pW base w t sz v n xs F)(hg:nY w base v w' v')(ho:w'.ownsRow base t sz v' (n+1) ys)(hF:∀q∈F,q<w.heap.size):pW base w' t sz v' (n+1) ys F:=by
 refine⟨ho,fun g hgg=> ?_⟩;rcases hg.at_ with h1|⟨g2,h1,h2⟩
 ·rw[h1]at hgg;exact h.gs g hgg
 ·rw[h1]at hgg;cases hgg;exact fun hq=>by have:=hF g hq;omega
theorem KZ (h:nY w base v w' v'):Mod v.ownBlock.toList w w':=⟨h.kE.os,h.kE.tape,h.kE.output,h.kE.size,fun k hk hn=>h.kE.block k hk (fun e=>hn (by simp[e]))⟩
end
theorem Y8:(Tryz.prog.info? 47).map (fun i=>(i.zero,i.size,i.bytes))=some (some (.agg #[.int .i64 0,.int .i64 0,.int .i64 0,.bool false,.int .u64 0,.int .u64 0,.nilIface]),7,64):=by kernel_rfl
theorem Y9:vH Tryz.prog 43 47 7 64:=EX Tryz.underlying43 Y8 rfl (by decide) (by decide)
def Td (W0:World)(E:Nat→Addr)(K M I b:Nat)(l:List aV)(w:World)(j:Nat)(v:Value)(wr:World):Prop:=
 ∃G us,gH W0 E (Bl l) K M I b G wr (kV M I vZ (l.take j))∧jI M I vZ (l.take j) us∧us.length=j∧pW w.heap.size wr 47 7 v j (us.flatMap (jq E)) G∧(∀q∈G,w.heap.size≤q)∧Below w.heap.size w wr
def Te (W0:World)(E:Nat→Addr)(k m i:Int)(l:List aV)(w:World)(y:Ending)(w':World):Prop:=
 ((jU k m i l≠0∧y= .returned (.tuple #[.slice none 0 0,dK E (jU k m i l)]))∨
  (jU k m i l=0∧∃v us,y= .returned (.tuple #[v,.nilIface])∧w'.ownsRow w.heap.size 47 7 v us.length (us.flatMap (jq E))∧jI m.toNat i.toNat vZ l us))∧Below w.heap.size w w'
structure adE (k m i:Int)(l:List aV):Prop where
 len:l.length≤2000
 right:∀o∈l,jZ o=true
 free:free l
 cfg:jM k m i=true
theorem ac7 {k m i:Int}{l:List aV}(h:jU k m i l=0):adE k m i l:=by
 unfold jU F7 at h;by_cases h1:2000<l.length
 ·rw[if_pos h1,if_neg (by decide)]at h;cases h
 rw[if_neg h1]at h;by_cases h2:(l.any fun o=> !jZ o)=true
 ·rw[if_pos h2,if_neg (by decide)]at h;cases h
 rw[if_neg h2]at h;by_cases h3:(other l).isSome=true
 ·rw[if_pos h3,if_neg (by decide)]at h;cases h
 rw[if_neg h3,if_pos rfl]at h;by_cases h4:jM k m i=true
 ·refine⟨by omega,fun o ho=> ?_,Ta.1 (by simpa using h3),h4⟩
  cases hr:jZ o with
  |true=>rfl
  |false=>exact absurd (List.any_eq_true.2 ⟨o,ho,by simp[hr]⟩) h2
 ·rw[if_neg h4]at h;cases h
theorem QZ {W0:World}{E:Nat→Addr}{w:World}(hE:Env W0 E w)(h3:bX E W0 3)(h6:bX E W0 6)(h7:bX E W0 7)(h8:bX E W0 8)(h9:bX E W0 9)(k m i:Int){A:Option Addr}{c:Nat}{l:List aV}(h:Reads w w.heap.size 5 A l.length (dR l))(hn:l.length≤65536)(hwf:∀o∈l,Dz o):
  Calls Tryz.prog 11 #[fZ k m i,.slice A l.length c] w (Te W0 E k m i l w):=by
 have hB:=(Below.refl w.heap.size w).alloc (Nat.le_refl _) (.cells #[.int .i64 k,.int .i64 m,.int .i64 i] 23);have hX:=aj.new w 23 #[.int .i64 k,.int .i64 m,.int .i64 i];obtain⟨W,hW⟩:∃W,W=w.alloc (.cells #[.int .i64 k,.int .i64 m,.int .i64 i] 23):=⟨_,rfl⟩;rw[←hW]at hB hX
 have zI:Reads W W.heap.size 5 A l.length (dR l):=by
  have h2:=h.below hB
  exact⟨h2.1,fun hn=>by
   obtain⟨g,off,a,b,d⟩:=h2.2 hn
   exact⟨g,off,a,Nat.lt_of_lt_of_le b hB.size,d⟩⟩
 have sZ:=qd (Wm (hE.next hB) h3 h8 h9 k m i (c:=c) zI hn hwf);have Ii:=qd hE.size;have BD:=qd (And.intro h6 h7);have l9:=qd h;have yN:=qd hwf;have HB:=qd hB;have HW:=qd hW;obtain⟨x0,x1,x2⟩:=hX.c3;clear hB hX hW zI hE h3 h6 h7 h8 h9 h hwf hn;unfold fZ at sZ⊢;go_in;go_upto_region 1 with fail;rw[←HW.out];go_wp2_with fail;refine sZ.out.mono ?_;rintro y w1 ⟨hy,hb1⟩;have HB1:=qd (HB.out.trans (hb1.mono HB.out.size));clear hb1 sZ x0 x1 x2;rcases hy with⟨hbg,rfl⟩|⟨hbg,b,G,rfl,hD,hG⟩
 ·obtain⟨e,he⟩:∃e,e=jU k m i l:=⟨_,rfl⟩;rw[←he]at hbg;have HFin:=qd (show∀V,Below w.heap.size w V→Te W0 E k m i l w (.returned (.tuple #[.slice none 0 0,dK E e])) V from fun V hV=>⟨.inl ⟨by rw[←he];exact hbg,by rw[←he]⟩,hV⟩);rw[←he];rw[fI E (by omega)]at HFin⊢;clear he hbg;go_wp2;refine bodyPost_ret (v:= .tuple #[.slice none 0 0,.iface 318 (.pointer (some (E e)))]) (by simp[results,Tryz.results11,go_sem]) rfl (HFin.out _ HB1.out)
 have Dc:=qd (ac7 hbg);have hcf:=QY Dc.out.cfg;obtain⟨K,hK⟩:∃K,K=k.toNat:=⟨_,rfl⟩;obtain⟨M,hM⟩:∃M,M=m.toNat:=⟨_,rfl⟩;obtain⟨I,hI⟩:∃I,I=i.toNat:=⟨_,rfl⟩;rw[←hK,←hM,←hI]at hD;have HMI:=qd (show 1≤M∧1≤I by omega);have HFin:=qd (show∀V v us,w.heap.size≤V.heap.size→Below w.heap.size w V→V.ownsRow w.heap.size 47 7 v us.length (us.flatMap (jq E))→jI M I vZ l us→Te W0 E k m i l w (.returned (.tuple #[v,.nilIface])) V from fun V v us _ hV ho ha=>⟨.inr ⟨hbg,v,us,rfl,ho,by rw[←hM,←hI];exact ha⟩,hV⟩);have qY:RowKit.Hid (Td W0 E K M I b l w 0 (.slice none 0 0) w1):=qd ⟨G,[],hD,trivial,rfl,pW.nil _ _ _ _ _,fun q hq=>Nat.le_trans HB.out.size (hG q hq),HB1.out⟩;clear hcf hK hM hI hD hG hbg HB1 HB HW;go_wp2;go_loopw [8,24] (fun v8 v24 wr=>∃j:Nat,j≤l.length∧v24=nI j∧Hid (Td W0 E K M I b l w j v8 wr)) (fun _ v24 _=>l.length-(intOf v24).toNat)
 case atStart=>exact⟨0,by omega,rfl,qY⟩
 case round=>
  clear qY;obtain⟨j,hj,rfl,qY⟩:=hrel;by_cases hlt:j<l.length
  ·have ho:l[j]?=some (l[j]'hlt):=List.getElem?_eq_getElem _;generalize l[j]'hlt=o at ho;obtain⟨G1,us,hD,ha,Wn,hO,hG1,hbr⟩:=qY.out;obtain⟨gb,off,rfl,hb,c0,c1,c2,c3,c4⟩:=yh (l9.out.below hbr) ho
   have hlt':(j:Int)<(l.length:Int):=by omega
   have hj0:(0:Int)≤(j:Int):=by omega
   have hl2:=Dc.out.len
   have hwj:IntKind.i64.wrap ((j:Int)+1)=((j+1:Nat):Int):=by rw[IntKind.wrap_i64];omega
   have hmem:=List.mem_of_getElem? ho;have hgv:=Ir M I (l.take j) vZ
   have hgl:(l.take j).length≤j:=by rw[List.length_take];omega
   have HO:=qd (And.intro hO (And.intro hG1 hbr));have HA:=qd (And.intro ha Wn);have HT:=qd (sI ho);have HD:=qd hD;have HDo:=qd (fun(V:World) (hV:Below wr.heap.size wr V)=>Wd (hD.below hV) o (Dc.out.right o hmem) (yN.out o hmem) (fun hk=>YW Dc.out.free yN.out hmem hk) (YV yN.out) (by have:vZ.gv=0:=rfl;omega) HMI.out BD.out.1 BD.out.2);clear hD ha Wn hO hG1 hbr hmem hgv hgl ho hb;go_upto_region 8 with fail;refine aZ (F:=fun v=>aj v wr.heap.size 40 #[.int .i64 o.kind,.int .u64 o.key,.int .u64 o.val,.int .u64 o.hash,.int .i64 o.iter]∧Below wr.heap.size wr v) ⟨aj.new wr 40 #[.int .i64 o.kind,.int .u64 o.key,.int .u64 o.val,.int .u64 o.hash,.int .i64 o.iter],(Below.refl wr.heap.size wr).alloc (Nat.le_refl _) _⟩ ?_;rintro w2 ⟨hX2,hb2⟩;obtain⟨x0,x1,x2,x3,x4⟩:=hX2.c5;have hdo:=HDo.out w2 hb2;unfold BP at hdo;have ac8:=qd hdo;have sU:=qd (And.intro (HO.out.1.below hb2) (HO.out.2.2.trans (hb2.mono HO.out.2.2.size)));have HD2:=qd (HD.out.below hb2);obtain⟨xb,hxb⟩:∃xb,xb=wr.heap.size:=⟨_,rfl⟩;have Wh:=qd (show w.heap.size≤w2.heap.size from sU.out.2.size);rw[←hxb]at x0 x1 x2 x3 x4⊢;clear hX2 hb2 hdo HDo hxb c0 c1 c2 c3 c4;go_wp2_with fail;refine ac8.out.mono ?_;rintro y w4 ⟨a,rfl,hao,hto⟩;obtain⟨G4,hD4,hs4,dP⟩:=hto;have HD4:=qd hD4;have Wo:=qd (And.intro (sU.out.1.to hs4 dP) (And.intro (show∀q∈G4,w.heap.size≤q from fun q hq=>(hs4 q hq).elim (HO.out.2.1 q) (Nat.le_trans Wh.out)) (sU.out.2.trans (dP.below (fun q hq=>HO.out.2.1 q hq) Wh.out))))
   have HAo:=qd (jI.snoc HA.out.1 hao);have HUl:=qd HA.out.2;clear hD4 hs4 dP hao HA ac8 sU HD2 HO HD;have hcl:(jq E a)=[.int .i64 a.kind,.int .i64 a.iter,.int .i64 a.state,.bool a.is,nU a.key,nU a.val,dK E a.err]:=rfl;have yE:=qd hcl;clear hcl;unfold oh;rcases lI E a.err with hu|⟨Ae,hu⟩
   all_goals
    have hcl:=yE.out;rw[hu]at hcl⊢;have ru:=qd hcl;clear hu hcl yE;go_upto_region 9 with fail
    first
     |refine aZ (F:=fun v=>aj v w4.heap.size 47 #[.int .i64 a.kind,.int .i64 a.iter,.int .i64 a.state,.bool a.is,nU a.key,nU a.val,.nilIface]∧Below w4.heap.size w4 v) ⟨aj.new w4 47 #[.int .i64 a.kind,.int .i64 a.iter,.int .i64 a.state,.bool a.is,nU a.key,nU a.val,.nilIface],(Below.refl w4.heap.size w4).alloc (Nat.le_refl _) _⟩ ?_
     |refine aZ (F:=fun v=>aj v w4.heap.size 47 #[.int .i64 a.kind,.int .i64 a.iter,.int .i64 a.state,.bool a.is,nU a.key,nU a.val,.iface 318 (.pointer (some Ae))]∧Below w4.heap.size w4 v) ⟨aj.new w4 47 #[.int .i64 a.kind,.int .i64 a.iter,.int .i64 a.state,.bool a.is,nU a.key,nU a.val,.iface 318 (.pointer (some Ae))],(Below.refl w4.heap.size w4).alloc (Nat.le_refl _) _⟩ ?_
    rintro w5 ⟨hX5,hb5⟩;obtain⟨x0,x1,x2,x3,x4,x5,x6⟩:=hX5.c7;have OY:=qd (And.intro (Wo.out.1.below hb5) (And.intro Wo.out.2.1 (Wo.out.2.2.trans (hb5.mono Wo.out.2.2.size))));have HD5:=qd (HD4.out.below hb5);obtain⟨ab,hab⟩:∃ab,ab=w4.heap.size:=⟨_,rfl⟩;rw[←hab]at x0 x1 x2 x3 x4 x5 x6⊢;have hrow:=OY.out.1.row;obtain⟨Ar,cr,hvr⟩:=bU hrow;subst hvr;have hbs:=OY.out.2.2.size;clear hX5 hb5 hab Wo HD4;go_wp2_with (at_builtin;refine iN rfl rfl Y9 hrow rfl rfl rfl rfl rfl (by omega) (by omega) ?_;intro v7 w7 UE hg7)
    have aex:RowKit.Hid (Td W0 E K M I b l w (j+1) v7 w7):=qd (by
     refine⟨G4,us++[a], ?_, ?_,by rw[List.length_append,HUl.out];rfl, ?_,OY.out.2.1,OY.out.2.2.trans hg7.below⟩
     ·rw[HT.out,OW];exact HD5.out.mod (KZ hg7) (fun q hq=>⟨OY.out.1.gs q (by simpa using hq),Nat.le_trans Ii.out (OY.out.1.row.lt q (by simpa using hq)).1⟩)
     ·rw[HT.out];exact HAo.out
     ·have:=OY.out.1.push hg7 UE (fun q hq=>(HD5.out.fM q hq).1);rw[List.flatMap_append,List.flatMap_cons,List.flatMap_nil,List.append_nil,ru.out]
      simpa using this)
    have HM:=qd (show l.length-(j+1)<l.length-j by omega);clear UE hg7 hrow qY;go_wp2;go_roundw
    case measure=>simp[intOf];exact HM.out
    exact⟨j+1,by omega,rfl,aex⟩
  ·obtain rfl:j=l.length:=by omega
   have hlt':¬(l.length:Int)<(l.length:Int):=by omega
   obtain⟨G1,us,hD,ha,Wn,hO,hG1,hbr⟩:=qY.out;rw[List.take_length]at ha;obtain⟨Ar,cr,hvr⟩:=bU hO.row;subst hvr;have hfin:=HFin.out wr _ us hbr.size hbr (by rw[Wn];exact hO.row) ha;have HF:=qd hfin;clear hfin hD ha Wn hO hG1 hbr;go_wp2;refine bodyPost_ret (v:= .tuple #[.slice Ar l.length cr,.nilIface]) (by simp[results,Tryz.results11,go_sem]) rfl HF.out
end
section
variable {E : Nat → Addr} {w : World}
theorem DI (E:Nat→Addr)(k:Nat)(h:k<16):(kG E)[k]?=some (.iface 318 (.pointer (some (E (k+1))))):=by
 unfold kG;rw[List.getElem?_map,List.getElem?_range h];rfl
theorem abt (h:eB E w)(j:Nat)(h1:1≤j)(h2:j≤16):
  Calls Tryz.prog 7 #[.iface 318 (.pointer (some (E j)))] w fun e w'=>e= .returned (.int .i64 j)∧Below w.heap.size w w':=by
 have hS:=h.alloc (.cells (kG E).toArray 27);have hcells:=aj.new w 27 (kG E).toArray;have hB:Below w.heap.size w (w.alloc (.cells (kG E).toArray 27)):=(Below.refl _ _).alloc (Nat.le_refl _) _;go_in;go_wp2_with (go_at_call 13;refine(aaJ h).mono ?_;rintro e w1 ⟨rfl,rfl⟩);obtain⟨W,hW⟩:∃W,W=w.alloc (.cells (kG E).toArray 27):=⟨_,rfl⟩;rw[←hW]at hS hcells hB⊢;clear hW;go_loop [3,4,9] (fun _ _ i=>∃k:Nat,k<j∧i= .int .i64 k) (fun _ _ i=>16-(intOf i).toNat)
 case atStart=>exact⟨0,by omega,rfl⟩
 case round=>
  obtain⟨k,hk,rfl⟩:=hrel
  have hc:W.cell? ⟨w.heap.size,k,none⟩=some (.iface 318 (.pointer (some (E (k+1))))):=by rw[hcells.cell k,List.getElem?_toArray];exact DI E k (by omega)
  have hi:=P8 hS j (k+1) h1 h2 (by omega) (by omega);by_cases hjk:j=k+1
  ·have hb:(j==k+1)=true:=by simp[hjk]
   rw[hb]at hi;have Hjk:=qd hjk;clear hjk hb;go_wp2_with (go_at_call 14;refine hi.mono ?_;rintro e w1 ⟨rfl,rfl⟩);go_ret;exact⟨fQ (by have:=Hjk.out;omega),hB⟩
  ·have hb:(j==k+1)=false:=by simp[hjk]
   rw[hb]at hi;clear hb;go_wp2_with (go_at_call 14;refine hi.mono ?_;rintro e w1 ⟨rfl,rfl⟩);go_round
   case rel=>exact⟨k+1,by omega,by go_num⟩
   case measure=>simp[intOf];omega
theorem abu (h:eB E w)(j:Nat)(h2:j≤16):
  Calls Tryz.prog 7 #[dK E j] w fun e w'=>e= .returned (.int .i64 j)∧Below w.heap.size w w':=by
 by_cases h0:j=0
 ·subst h0;exact(aaK w).mono fun e w' ⟨he,hw⟩=>⟨he,hw▸Below.refl _ _⟩
 ·rw[fI E (by omega)];exact abt h j (by omega) h2
end
end Go.Proofs.YtkkibocdfijnhaaGreatDoor
