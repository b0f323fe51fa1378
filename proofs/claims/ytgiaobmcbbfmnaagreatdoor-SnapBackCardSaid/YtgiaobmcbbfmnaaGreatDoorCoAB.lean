/- words.decimal, words.Number and words.Small by their contracts. -/
import Derived.Test.YtgiaobmcbbfmnaaGreatDoorDecM
import Derived.Test.YtgiaobmcbbfmnaaGreatDoorSq
import Derived.Test.YtgiaobmcbbfmnaaGreatDoorSnP
import Derived.Test.YtgiaobmcbbfmnaaGreatDoorKit2
import Derived.Test.YtgiaobmcbbfmnaaGreatDoorSqT
import Derived.Test.YtgiaobmcbbfmnaaGreatDoorCoU
namespace Go.Proofs.YtgiaobmcbbfmnaaGreatDoor
set_option maxRecDepth 100000
set_option maxHeartbeats 4000000
open Go.RowKit EP dw Go
section
variable {E : Nat → Addr}
theorem Ov {l:List UInt8}(hne:l≠[])(hall:∀b∈l,iJ b=true):wB false l=true:=by
 unfold wB nR;have h1:l.all (uy false)=true:=List.all_eq_true.2 fun b hb=>hall b hb;rw[h1]
 cases l with
 |nil=>exact absurd rfl hne
 |cons _ _=>rfl
theorem head_data (s:ByteArray)(h:0<s.size):s.data.toList=s[0]::s.data.toList.drop 1:=by
 have h1:=List.drop_eq_getElem_cons (l:=s.data.toList) (i:=0) (by simpa using h);rw[List.drop_zero]at h1;exact h1
theorem Fx (s:ByteArray)(h:1<s.size):CO s.data.toList=(s[0] !=48):=by
 rw[head_data s (by omega)]
 cases h1:s.data.toList.drop 1 with
 |nil=>
  have:=congrArg List.length h1;simp at this;omega
 |cons a b=>rfl
theorem Ow (s:ByteArray)(w:World)(hs:s.size≤70000)(hN:iL E w)(n:Nat)(h:dec s.data.toList=some n):
  Calls Tryz.prog 121 #[.string s] w (xG E w (some n)):=by
 obtain⟨hne,hall,hz,hv,hlt⟩:=XP h;have hp:=Fw s w hs hN;rw[U6 _ hne,He _ 0 hall (by omega),←hv]at hp;have HP:=qd (show Calls Tryz.prog 122 #[.string s,.int .i64 10,.int .i64 64] w fun e w'=>e= .returned (.tuple #[.int .u64 n,.nilIface])∧Below w.heap.size w w' from hp);have HF:=qd (fun W=>wC s false W hs);have hf:=qd (Ov hne hall)
 have h0:0<s.size:=by
  rcases Nat.eq_zero_or_pos s.size with q|q
  ·exact absurd (List.length_eq_zero_iff.1 (by simpa using q)) hne
  ·exact q
 by_cases h1:1<s.size
 ·have b1:(1:Int)<(s.size:Int):=by omega
  have hz':=Fx s h1;rw[hz]at hz';have b2:(((s[0]).toNat:Int)==48)=false:=YW (by simpa using hz'.symm) (by decide);clear h hne hall hz hv hp hz';go_in
  go_wp2_with (first
   |(go_at_call 122;refine HP.out.mono ?_;rintro e w1 ⟨rfl,hb1⟩)
   |(go_at_call 123;refine(HF.out _).mono ?_;rintro e w2 ⟨rfl,hb2⟩;rw[hf.out]))
  go_ret2;exact⟨rfl,hb1.trans (hb2.mono hb1.size)⟩
 ·have b1:¬(1:Int)<(s.size:Int):=by omega
  clear h hne hall hz hv hp;go_in
  go_wp2_with (first
   |(go_at_call 122;refine HP.out.mono ?_;rintro e w1 ⟨rfl,hb1⟩)
   |(go_at_call 123;refine(HF.out _).mono ?_;rintro e w2 ⟨rfl,hb2⟩;rw[hf.out]))
  go_ret2;exact⟨rfl,hb1.trans (hb2.mono hb1.size)⟩
theorem Ox (s:ByteArray)(w:World)(hs:s.size≤70000)(hN:iL E w)(h:dec s.data.toList=none):
  Calls Tryz.prog 121 #[.string s] w (xG E w none):=by
 have hd:=XQ h;have hp:=Fw s w hs hN
 cases hr:Lib.parseUintB 64 s.data.toList with
 |ok u=>
  have hne:s.data.toList≠[]:=fun e=>by rw[e]at hr;simp[Lib.parseUintB]at hr
  have hr':=hr;rw[U6 _ hne]at hr';obtain⟨hall,hu⟩:=G9 _ _ _ hr';have hlt:=Lib.parseUint10_lt _ 0 u (by decide) hr';have hz:¬CO s.data.toList=true:=fun hz=>hd ⟨hne,hall,hz,by omega⟩
  have h1:1<s.size:=by
   rcases Nat.lt_or_ge 1 s.size with q|q
   ·exact q
   ·exfalso;apply hz
    cases hl:s.data.toList with
    |nil=>rfl
    |cons a r=>
     cases r with
     |nil=>rfl
     |cons b r=>have:=congrArg List.length hl;simp at this;omega
  rw[hr]at hp;have HP:=qd (show Calls Tryz.prog 122 #[.string s,.int .i64 10,.int .i64 64] w fun e w'=>e= .returned (.tuple #[.int .u64 u,.nilIface])∧Below w.heap.size w w' from hp);have HF:=qd (fun W=>wC s false W hs);have hf:=qd (Ov hne hall)
  have b1:(1:Int)<(s.size:Int):=by omega
  rw[Fx s h1]at hz
  have b2:(((s[0]).toNat:Int)==48)=true:=by
   have:s[0]=48:=by simpa using hz
   rw[this];rfl
  have HN:=qd hN;clear h hne hall hz hp hd hr hr' hu hlt hN;go_in
  go_wp2_with (first
   |(go_at_call 122;refine HP.out.mono ?_;rintro e w1 ⟨rfl,hb1⟩)
   |(go_at_call 123;refine(HF.out _).mono ?_;rintro e w2 ⟨rfl,hb2⟩;rw[hf.out];have h3:=(((HN.out.below hb1 (Nat.le_refl _)).below hb2 (Nat.le_refl _)).e13);simp only[dP,gE]at h3))
  go_quiet (fail);go_wp2;go_ret2;exact⟨rfl,below_drewN (hb1.trans (hb2.mono hb1.size)) _⟩
 |_=>
  rw[hr]at hp;obtain HP:=qd (show Calls Tryz.prog 122 #[.string s,.int .i64 10,.int .i64 64] w fun e w'=>∃m p,e= .returned (.tuple #[.int .u64 m,.iface 346 p])∧Below w.heap.size w w' from hp);have HN:=qd hN;clear h hd hr hp hN;go_in
  go_wp2_with (first
   |(go_at_call 122;refine HP.out.mono ?_;rintro e w1 ⟨m,p,rfl,hb1⟩;have h3:=(HN.out.below hb1 (Nat.le_refl _)).e13;simp only[dP,gE]at h3))
  go_quiet (fail);go_wp2;go_ret2;exact⟨rfl,below_drewN hb1 _⟩
theorem Mj (s:ByteArray)(w:World)(hs:s.size≤70000)(hN:iL E w):Calls Tryz.prog 121 #[.string s] w (xG E w (dec s.data.toList)):=by
 cases h:dec s.data.toList with
 |some n=>exact Ow s w hs hN n h
 |none=>exact Ox s w hs hN h
end
section
variable {l : List UInt8} {E : Nat → Addr} {w w' : World} {n : Nat} {most : Int}
theorem YZ (hne:l≠[])(hall:∀b∈l,jC b=true):wB true l=true:=by
 unfold wB nR;have h1:l.all (uy true)=true:=List.all_eq_true.2 fun b hb=>hall b hb;rw[h1]
 cases l with
 |nil=>exact absurd rfl hne
 |cons _ _=>rfl
theorem QS (h:wB true l=true):l≠[]∧∀b∈l,jC b=true:=by
 unfold wB nR at h;rw[Bool.and_eq_true]at h;refine⟨fun e=>by rw[e]at h;simp at h,fun b hb=>List.all_eq_true.1 h.1 b hb⟩
theorem Y0 (s:ByteArray)(w:World)(hs:s.size≤70000)(hN:iL E w)(hp:Lib.hasPrefix s.data.toList [48,120]=false):
  Calls Tryz.prog 83 #[.string s] w (xG E w (dec s.data.toList)):=by
 have hc:=Tryz.strings_CutPrefix s ⟨#[48,120]⟩ w;have e0:(⟨#[48,120]⟩:ByteArray).data.toList=[48,120]:=rfl;rw[e0,hp]at hc;generalize(⟨(Lib.trimPrefix s.data.toList [48,120]).toArray⟩:ByteArray)=t at hc;have hd:=Mj s w hs hN;have HC:=qd hc;clear hc e0 hp
 cases h:dec s.data.toList with
 |some n=>
  rw[h]at hd;have HD:=qd (show Calls Tryz.prog 121 #[.string s] w fun e w'=>e= .returned (.tuple #[.int .u64 n,.nilIface])∧Below w.heap.size w w' from hd);clear h hd;go_in
  go_wp2_with (first
   |(go_at_call 120;refine HC.out.mono ?_;rintro e w1 ⟨rfl,rfl⟩)
   |(go_at_call 121;refine HD.out.mono ?_;rintro e w2 ⟨rfl,hb2⟩))
  go_ret2;exact⟨rfl,hb2⟩
 |none=>
  rw[h]at hd;have HD:=qd (show Calls Tryz.prog 121 #[.string s] w fun e w'=>e= .returned (.tuple #[.int .u64 0,.iface 379 (.pointer (some (E 13)))])∧Below w.heap.size w w' from hd);clear h hd;go_in
  go_wp2_with (first
   |(go_at_call 120;refine HC.out.mono ?_;rintro e w1 ⟨rfl,rfl⟩)
   |(go_at_call 121;refine HD.out.mono ?_;rintro e w2 ⟨rfl,hb2⟩))
  go_ret2;exact⟨rfl,hb2⟩
theorem number16 (s:ByteArray)(w:World)(hN:iL E w)(hp:Lib.hasPrefix s.data.toList [48,120]=true)(hl:(Lib.trimPrefix s.data.toList [48,120]).length≤70000):
  Calls Tryz.prog 83 #[.string s] w (xG E w (hex (Lib.trimPrefix s.data.toList [48,120]))):=by
 have hc:=Tryz.strings_CutPrefix s ⟨#[48,120]⟩ w;have e0:(⟨#[48,120]⟩:ByteArray).data.toList=[48,120]:=rfl;rw[e0,hp]at hc;generalize hlt:Lib.trimPrefix s.data.toList [48,120]=l at hc hl⊢;obtain⟨t,ht⟩:∃t:ByteArray,t=⟨l.toArray⟩:=⟨_,rfl⟩
 have htl:t.data.toList=l:=by rw[ht]
 have hts:t.size=l.length:=by rw[ht];simp[ByteArray.size]
 rw[←ht]at hc;have Dw:=QO t w (by omega) hN;have HF:=fun W=>wC t true W (by omega);rw[htl]at Dw HF;have HC:=qd hc;have HN:=qd hN;clear hc e0 hp ht htl hlt hN
 cases h:hex l with
 |some n=>
  obtain⟨hne,hall,h16,h4⟩:=FX h;rw[p16_hex h]at Dw;rw[YZ hne hall]at HF;have HP:=qd (show Calls Tryz.prog 122 #[.string t,.int .i64 16,.int .i64 64] w fun e w'=>e= .returned (.tuple #[.int .u64 n,.nilIface])∧Below w.heap.size w w' from Dw);have V6:=qd HF
  have b1:¬(16:Int)<(t.size:Int):=by omega
  clear h hne hall Dw HF h4 hts h16;go_in
  go_wp2_with (first
   |(go_at_call 120;refine HC.out.mono ?_;rintro e w1 ⟨rfl,rfl⟩)
   |(go_at_call 122;refine HP.out.mono ?_;rintro e w2 ⟨rfl,hb2⟩)
   |(go_at_call 123;refine(V6.out _).mono ?_;rintro e w3 ⟨rfl,hb3⟩))
  go_ret2;exact⟨rfl,hb2.trans (hb3.mono hb2.size)⟩
 |none=>
  have hn:=XR h
  cases hr:p16 l with
  |ok u=>
   rw[hr]at Dw;have HP:=qd (show Calls Tryz.prog 122 #[.string t,.int .i64 16,.int .i64 64] w fun e w'=>e= .returned (.tuple #[.int .u64 u,.nilIface])∧Below w.heap.size w w' from Dw)
   cases hf:wB true l with
   |true=>
    have h16:16<l.length:=by
     obtain⟨q1,q2⟩:=QS hf;rcases Nat.lt_or_ge 16 l.length with q|q
     ·exact q
     ·exact absurd ⟨q1,q2,q⟩ hn
    have b1:(16:Int)<(t.size:Int):=by omega
    rw[hf]at HF;have V6:=qd HF;clear h hn hr hf Dw HF;go_in
    go_wp2_with (first
     |(go_at_call 120;refine HC.out.mono ?_;rintro e w1 ⟨rfl,rfl⟩)
     |(go_at_call 122;refine HP.out.mono ?_;rintro e w2 ⟨rfl,hb2⟩)
     |(go_at_call 123;refine(V6.out _).mono ?_;rintro e w3 ⟨rfl,hb3⟩;have h3:=((HN.out.below hb2 (Nat.le_refl _)).below hb3 (Nat.le_refl _)).e13;simp only[dP,gE]at h3))
    go_quiet (fail);go_wp2;go_ret2;exact⟨rfl,below_drewN (hb2.trans (hb3.mono hb2.size)) _⟩
   |false=>
    rw[hf]at HF;have V6:=qd HF;clear h hn hr hf Dw HF;go_in
    go_wp2_with (first
     |(go_at_call 120;refine HC.out.mono ?_;rintro e w1 ⟨rfl,rfl⟩)
     |(go_at_call 122;refine HP.out.mono ?_;rintro e w2 ⟨rfl,hb2⟩)
     |(go_at_call 123;refine(V6.out _).mono ?_;rintro e w3 ⟨rfl,hb3⟩;have h3:=((HN.out.below hb2 (Nat.le_refl _)).below hb3 (Nat.le_refl _)).e13;simp only[dP,gE]at h3))
    go_quiet (fail);go_wp2;go_ret2;exact⟨rfl,below_drewN (hb2.trans (hb3.mono hb2.size)) _⟩
  |_=>
   rw[hr]at Dw;have HP:=qd (show Calls Tryz.prog 122 #[.string t,.int .i64 16,.int .i64 64] w fun e w'=>∃m p,e= .returned (.tuple #[.int .u64 m,.iface 346 p])∧Below w.heap.size w w' from Dw);clear h hn hr Dw HF;go_in
   go_wp2_with (first
    |(go_at_call 120;refine HC.out.mono ?_;rintro e w1 ⟨rfl,rfl⟩)
    |(go_at_call 122;refine HP.out.mono ?_;rintro e w2 ⟨m,p,rfl,hb2⟩;have h3:=(HN.out.below hb2 (Nat.le_refl _)).e13;simp only[dP,gE]at h3))
   go_quiet (fail);go_wp2;go_ret2;exact⟨rfl,below_drewN hb2 _⟩
theorem Oy (s:ByteArray)(w:World)(hs:s.size≤70000)(hN:iL E w):Calls Tryz.prog 83 #[.string s] w (xG E w (numOf s.data.toList)):=by
 unfold numOf
 have hl:s.data.toList.length=s.size:=by simp
 cases hp:Lib.hasPrefix s.data.toList [48,120]with
 |true=>
  simp only[if_true];exact number16 s w hN hp (by unfold Lib.trimPrefix;split<;>simp<;>omega)
 |false=>
  simp only[Bool.false_eq_true,if_false];exact Y0 s w hs hN hp
def adI (E:Nat→Addr)(w:World)(r:Option Nat)(most:Int)(e:Ending)(w':World):Prop:=
 match r with
 |some n=>if most<0∨most<n then e= .returned (.tuple #[.int .i64 0,.iface 379 (.pointer (some (E 1)))])∧Below w.heap.size w w' else e= .returned (.tuple #[.int .i64 n,.nilIface])∧Below w.heap.size w w'
 |none=>e= .returned (.tuple #[.int .i64 0,.iface 379 (.pointer (some (E 13)))])∧Below w.heap.size w w'
end
theorem IK (tb gb:Nat)(T:aD)(mb:Nat)(mt:TypeId)(lF jh:List Value)(mo:Nat)(a0 l0:bE)(m:Int)(c:bE)(i:Nat)(hi:i<T.gs.length)(w:World)(h:TabAt w tb gb T)(hM:Met w mb mt lF jh mo a0 l0 m)(hmt:mb≠tb)(lM:mb≠gb):
  Calls Tryz.prog 310 #[cO tb,aM (some ⟨mb,mo,none⟩) c,.int .i64 (i:Int)] w fun x w'=>x= .returned (.tuple #[aY ⟨gb,i*25,none⟩,.bool true])∧Met w' mb mt lF jh mo (iW a0 c) (iW l0 c) m∧Mod [mb] w w':=by
 obtain⟨W,hW,hB,hL,hR⟩:=qQ w 150 #[.pointer (some ⟨mb,mo,none⟩),.int .i64 c.p,.int .i64 c.v,.int .i64 c.u] 202 #[.pointer none];have lc:=hL.c4;have KN:=hR.cell 0;simp only[List.getElem?_toArray,List.getElem?_cons_zero]at KN;have hml:=hM.lt;have htl:=h.aU;have hgl:=h.aV;have HW:=qd hW
 have hi':(i:Int)<(T.gs.length:Int):=by omega
 have hi0:¬((i:Int)<0):=by omega
 have hi2:(0:Int)≤(i:Int):=by omega
 have wP:=qd (wT ⟨gb,i*25,none⟩ mb mt lF jh mo a0 l0 m c W.drew (hM.below (hB.trans ((Below.refl _ _).drew.mono hB.size))));obtain⟨uf,tc1,tc2⟩:=(h.below hB).cells;unfold aM at wP;unfold cO aM aY;have HT:=qd (h.below hB);have HR:=qd (hR);have ah:=qd (Mod.of_below hB [mb]);clear hW hB h hM hL hR;go_in;go_upto_region 1 with fail;rw[←HW.out];go_upto_region 3 with fail;refine rT (fun(w':World)=>w'.cell? ⟨tb,0,none⟩=some (.slice (some ⟨gb,0,none⟩) T.gs.length T.gs.length)∧w'.cell? ⟨w.heap.size,0,none⟩=some (.pointer (some ⟨mb,mo,none⟩))∧w'.cell? ⟨w.heap.size,1,none⟩=some (.int .i64 c.p)∧w'.cell? ⟨w.heap.size,2,none⟩=some (.int .i64 c.v)∧w'.cell? ⟨w.heap.size,3,none⟩=some (.int .i64 c.u)) [7,8] ?_;have hHeld:=(⟨uf,lc.1,lc.2.1,lc.2.2.1,lc.2.2.2⟩:_∧_∧_∧_∧_);refine vW 0 rfl ?_;refine vW 1 rfl ?_;refine vW 2 rfl ?_;refine vT 3 rfl ?_;refine vW 4 rfl ?_;refine vW 5 rfl ?_;refine vT 6 rfl ?_;refine nT 7 rfl fun K hK=> ?_;go_simp;refine(wP.out).mono ?_;rintro x w1 ⟨rfl,hM1,hm⟩;replace hm:Mod [mb] W w1:=(Mod.drewN [mb] W 1).then hm;clear lc KN;replace HT:=qM hm HT;replace HR:=qM hm HR;replace ah:=qU ah hm;have HM:=qd (hM1);clear hM1 hm;unfold aY;have KN:=HR.out.cell 0;simp only[List.getElem?_toArray,List.getElem?_cons_zero]at KN;have VP:=HR.out.frozen 0;have n0:=HT.out.cells.1;go_simp;refine kO hK ?_;clear hK K;refine nT 8 rfl fun K hK=> ?_;go_simp;refine kO hK ?_;clear hK K;refine vL 9 rfl ?_;refine aT (by kernel_rfl) ?_ _;have q1:=qJ HT.out.aU (qJ HT.out.aV (qJ HR.out.lt HM.out.lt))
 have hnew:=(HR.out.ak 0 (.pointer (some ⟨gb,i*25,none⟩)));have hm:=((Mod.refl [(w.heap.size+1)] w1).sl 0 (.pointer (some ⟨gb,i*25,none⟩)));simp only[pt]at hnew;refine dI (F:=fun v=>aj v (w.heap.size+1) 202 #[.pointer (some ⟨gb,i*25,none⟩)]∧Mod [(w.heap.size+1)] w1 v) ⟨hnew,hm⟩ ?_;clear hnew hm;rintro w2 ⟨hnew,hm⟩;clear KN VP;replace HT:=qM hm HT;replace HM:=qM hm HM;replace ah:=qU ah hm;replace HR:=qd hnew;clear hnew hm;have KN:=HR.out.cell 0;simp only[List.getElem?_toArray,List.getElem?_cons_zero]at KN;go_wp2;refine bodyPost_ret (v:= .tuple #[.agg #[.pointer (some ⟨gb,i*25,none⟩)],.bool true]) (by simp[results,Tryz.results310,go_sem,KN]) rfl ⟨rfl,HM.out,ah.out⟩
theorem Mk (tb gb:Nat)(T:aD)(mb:Nat)(mt:TypeId)(lF jh:List Value)(mo:Nat)(a0 l0:bE)(m:Int)(c:bE)(i:Nat)(hi:i<T.gs.length)(w:World)(h:TabAt w tb gb T)(hM:Met w mb mt lF jh mo a0 l0 m)(hmt:mb≠tb)(lM:mb≠gb):
  Calls Tryz.prog 305 #[cO tb,aM (some ⟨mb,mo,none⟩) c,.int .i64 (i:Int)] w fun x w'=>x= .returned .nilIface∧TabAt w' tb gb {T with gs:=T.gs.set i (List.replicate 8 .empty)}∧Met w' mb mt lF jh mo (iW a0 c) (iW l0 c) m∧Mod [mb,tb,gb] w w':=by
 have hB:=(Below.refl w.heap.size w).alloc (Nat.le_refl _) (.cells #[.pointer (some ⟨mb,mo,none⟩),.int .i64 c.p,.int .i64 c.v,.int .i64 c.u] 150);have hL:=aj.new w 150 #[.pointer (some ⟨mb,mo,none⟩),.int .i64 c.p,.int .i64 c.v,.int .i64 c.u];obtain⟨W,hW⟩:∃W,W=w.alloc (.cells #[.pointer (some ⟨mb,mo,none⟩),.int .i64 c.p,.int .i64 c.v,.int .i64 c.u] 150):=⟨_,rfl⟩;rw[←hW]at hB hL;obtain⟨N9,Oa,Ob,Oc⟩:=hL.c4;have hml:=hM.lt;have htl:=h.aU;have hgl:=h.aV;have HW:=qd hW;have wP:=qd (IK tb gb T mb mt lF jh mo a0 l0 m c i hi W (h.below hB) (hM.below hB) hmt lM);unfold cO aM aY at wP;unfold cO aM;have HT:=qd (h.below hB);have ah:=qd (Mod.of_below hB [mb,tb,gb]);clear hW hB h hM hL;go_in;go_upto_region 1 with fail;rw[←HW.out];go_wp2_with fail;refine(wP.out).mono ?_;rintro x w1 ⟨rfl,hM1,hm⟩;clear N9 Oa Ob Oc;replace HT:=qM hm HT;replace ah:=qU ah hm;clear hm;have HM:=qd (hM1);clear hM1;go_upto_region 4 with fail;have q1:=qJ HT.out.aU (qJ HT.out.aV (qJ HM.out.lt ah.out.size));refine dQ 202 #[.pointer (some ⟨gb,i*25,none⟩)] ?_;rintro w2 ⟨hnew,hb⟩;replace HT:=qB hb HT;replace HM:=qB hb HM;replace ah:=qT ah hb;have HV:=qd (hnew);clear hnew hb;have Ar:=HV.out.cell 0;simp only[List.getElem?_toArray,List.getElem?_cons_zero]at Ar;have Dx:=qd (KF gb 246 _ _ (i*25) _ w2 (HT.out.group i hi));unfold aY at Dx;go_wp2_with fail;refine(Dx.out).mono ?_;rintro x w3 ⟨rfl,hG3,hm⟩;have xU:=HT.out.oG i hi hm hG3;clear HT hG3 HV Ar
 replace HM:=qM hm HM;replace ah:=qU ah hm;have HT:=qd (xU);clear hm xU;go_wp2;go_ret;exact⟨rfl,HT.out,HM.out,ah.out⟩
section
variable {T : aD} {i s : Nat}
structure lQ (T:aD):Prop where
 wide:qH T.gs
 pow:Pw T.gs.length
 live:T.live=((aH T.gs).length:Int)
 bO:T.bO=(eU T.gs:Int)
theorem lQ.small (h:lQ T):Small T:=by
 have h1:=Vl h.wide;have h2:=h.pow.le;exact⟨by rw[h.live];omega,by rw[h.live];omega,by rw[h.bO];omega,by rw[h.bO];omega,h2⟩
theorem lQ.put (h:lQ T)(hi:i<T.gs.length)(hs:s<(T.gs.getD i []).length)(x:Slot){l t:Int}(hl:l=T.live+x.ents.length-(aF T.gs i s).ents.length)(ht:t=T.bO+x.kF-(aF T.gs i s).kF):lQ ⟨putAt T.gs i s x,l,t⟩:=by
 have h1:=(C8 hi hs x).length_eq;have h2:=wR hi hs x;rw[List.length_append,List.length_append]at h1;have h3:=h.live;have h4:=h.bO;exact⟨h.wide.put _ _ _,by show Pw (putAt _ _ _ _).length;rw[gU];exact h.pow,by show l=((aH (putAt T.gs i s x)).length:Int);omega,by show t=(eU (putAt T.gs i s x):Int);omega⟩
theorem lQ.erase (h:lQ T){e:ay}(he:aF T.gs i s= .full e):lQ (kV T i s):=by
 obtain⟨hi,hs⟩:=jZ (gs:=T.gs) (i:=i) (s:=s) (by rw[he];exact fun h=>by cases h);unfold kV
 cases ho:dB (T.gs.getD i [])with
 |true=>exact h.put hi hs _ (by rw[he];simp[Slot.ents]<;>omega) (by rw[he];simp[Slot.kF,Slot.iE]<;>omega)
 |false=>exact h.put hi hs _ (by rw[he];simp[Slot.ents]<;>omega) (by rw[he];simp[Slot.kF,Slot.iE]<;>omega)
theorem lQ.place (h:lQ T)(hi:i<T.gs.length)(hs:s<(T.gs.getD i []).length)(he:(aF T.gs i s).isFull=false)(e:ay):lQ (jm T i s e):=by
 unfold jm
 cases hx:aF T.gs i s with
 |full y=>rw[hx]at he;cases he
 |empty=>exact h.put hi hs _ (by rw[hx];simp[Slot.ents]<;>omega) (by rw[hx];simp[Slot.kF,Slot.iE]<;>omega)
 |qc=>exact h.put hi hs _ (by rw[hx];simp[Slot.ents]<;>omega) (by rw[hx];simp[Slot.kF,Slot.iE]<;>omega)
theorem lQ.replace (h:lQ T){v:Nat}{e:ay}(he:aF T.gs i s= .full e):lQ (replaceM T i s v e):=by
 obtain⟨hi,hs⟩:=jZ (gs:=T.gs) (i:=i) (s:=s) (by rw[he];exact fun h=>by cases h);exact h.put hi hs _ (by rw[he];simp[Slot.ents]<;>omega) (by rw[he];simp[Slot.kF,Slot.iE]<;>omega)
def fT (T:aD)(i s:Nat):aD:=if(aF T.gs i s).isFull then kV T i s else T
def takeN (T:aD)(i:Nat):Nat→aD
 |0=>T
 |k+1=>fT (takeN T i k) i k
theorem lQ.adW (h:lQ T)(i s:Nat):lQ (fT T i s):=by
 unfold fT
 cases hx:aF T.gs i s with
 |full e=>rw[if_pos (by rfl)];exact h.erase hx
 |empty=>rw[if_neg (by simp[Slot.isFull])];exact h
 |qc=>rw[if_neg (by simp[Slot.isFull])];exact h
theorem lQ.tkN (h:lQ T)(i:Nat):∀k,lQ (takeN T i k)
 |0=>h
 |k+1=>(h.tkN i k).adW i k
theorem Co (T:aD)(i s:Nat):(kV T i s).gs.length=T.gs.length:=gU _ _ _ _
theorem sN (T:aD)(i:Nat):∀k,(takeN T i k).gs.length=T.gs.length
 |0=>rfl
 |k+1=>by
  show(fT _ _ _).gs.length=_;unfold fT;split
  ·rw[Co,sN T i k]
  ·exact sN T i k
theorem abt {w w':World}{S:List Nat}{base:Nat}{e:TypeId}{size n:Nat}{v:Value}{xs:List Value}(h:w.ownsRow base e size v n xs)(hm:Mod S w w')(hS:∀k,k∈S→k<base):w'.ownsRow base e size v n xs:=by
 refine⟨h.1, ?_⟩;rcases h.2 with hn|⟨g,cap,cur,hv,hb,hg,rest⟩
 ·exact .inl hn
 ·exact .inr ⟨g,cap,cur,hv,hb,(hm.block g (Array.getElem?_eq_some_iff.1 hg).1 (fun hh=>absurd (hS g hh) (by omega))).trans hg,rest⟩
instance {w w':World}{base:Nat}{e:TypeId}{size n:Nat}{v:Value}{xs:List Value}:Md (w.ownsRow base e size v n xs) w w' (w'.ownsRow base e size v n xs) (fun S=>∀k,k∈S→k<base):=⟨fun h hm hs=>abt h hm hs⟩
end
section
structure uT (E:Nat→Addr)(w:World):Prop where
 of:∀k,k=1∨k=2∨k=5→dP E w k
theorem uT.at_ {E:Nat→Addr}{w:World}(h:uT E w)(k:Nat)(_:1≤k)(_:k≤16)(hk:k=1∨k=2∨k=5:=by decide):dP E w k:=h.of k hk
theorem uT.below {E:Nat→Addr}{w w':World}{B:Nat}(h:uT E w)(hb:Below B w w')(hB:w.heap.size≤B):uT E w':=⟨fun k hk=>(h.of k hk).below hb hB⟩
theorem eX.core {E:Nat→Addr}{w:World}(h:eX E w):uT E w:=⟨fun k hk=>h.at_ k (by omega) (by omega)⟩
structure Env (W0:World)(E:Nat→Addr)(w:World):Prop where
 below:Below W0.heap.size W0 w
 aay:uT E W0
 tz0:gL W0
section
variable {W0 w w' : World} {E : Nat → Addr}
theorem Env.size (h:Env W0 E w):W0.heap.size≤w.heap.size:=h.below.size
theorem Env.errs (h:Env W0 E w):uT E w:=h.aay.below h.below (Nat.le_refl _)
theorem Env.tz (h:Env W0 E w):gL w:=h.tz0.below h.below
theorem Env.ach (h:Env W0 E w):25 <W0.heap.size:=World.block_lt_of_cell? W0 _ (h.tz0 0 (by omega))
theorem Env.mod {S:List Nat}(h:Env W0 E w)(hm:Mod S w w')(hS:∀k,k∈S→W0.heap.size≤k):Env W0 E w':=⟨h.below.trans (hm.below hS h.size),h.aay,h.tz0⟩
instance {w w':World}{W0:World}{E:Nat→Addr}:Md (Env W0 E w) w w' (Env W0 E w') (fun S=>∀k,k∈S→W0.heap.size≤k):=⟨fun h hm hs=>h.mod hm hs⟩
theorem Env.next (h:Env W0 E w)(hb:Below w.heap.size w w'):Env W0 E w':=h.mod (Mod.of_below hb []) (by simp)
end
structure MP where
 mb:Nat
 mt:TypeId
 pre:List Value
 post:List Value
 mo:Nat
 m:Int
structure bH where
 all:bE
 last:bE
def bH.add (x:bH)(c:bE)(n:Nat):bH:=⟨fK x.all c n,fK x.last c n⟩
theorem Dy (a c:bE)(k:Nat):∀n,fK (fK a c k) c n=fK a c (k+n)
 |0=>rfl
 |n+1=>by
  show iW (fK (fK a c k) c n) c=iW (fK a c (k+n)) c;rw[Dy a c k n]
theorem bH.add_add (x:bH)(c:bE)(k n:Nat):(x.add c k).add c n=x.add c (k+n):=by unfold bH.add;rw[Dy,Dy]
def aP (w:World)(P:MP)(x:bH):Prop:=Met w P.mb P.mt P.pre P.post P.mo x.all x.last P.m
def MP.addr (P:MP):Addr:=⟨P.mb,P.mo,none⟩
section
variable {w w' : World} {P : MP} {x : bH}
theorem aP.lt (h:aP w P x):P.mb<w.heap.size:=Met.lt h
theorem aP.mod {S:List Nat}(h:aP w P x)(hm:Mod S w w')(hg:P.mb∉S):aP w' P x:=Met.mod h hm hg
instance {w w':World}{P:MP}{x:bH}:Md (aP w P x) w w' (aP w' P x) (fun S=>P.mb∉S):=⟨fun h hm hs=>aP.mod h hm hs⟩
theorem aP.below (h:aP w P x)(hb:Below w.heap.size w w'):aP w' P x:=Met.below h hb
end
end
theorem Bz {z:Array Value}{v:Value}{k:Nat}(hz:z=(List.replicate k v).toArray)(hk:0<k)(n:Nat):madeCells z n=(List.replicate n v).toArray:=by
 apply Array.toList_inj.1;subst hz;unfold madeCells;rw[Array.toList_map];refine List.ext_getElem (by simp) fun i h1 h2=> ?_;simp only[List.getElem_map,List.getElem_replicate];rw[getElem!_pos _ _ (by simp;exact Nat.mod_lt _ hk)];simp
def BA:kH:=List.replicate 8 (.full ⟨0,0,0⟩)
theorem TA:xS BA=List.replicate 25 (.int .u64 0):=by rfl
theorem Dz:∀n,bR (List.replicate n BA)=List.replicate (n*25) (.int .u64 0)
 |0=>rfl
 |n+1=>by
  show xS BA++bR (List.replicate n BA)=_;rw[Dz n,TA,Nat.add_mul,Nat.add_comm,List.replicate_append_replicate]
def afA:Value:= .agg #[.int .u64 0,.agg (Array.replicate 8 (.agg #[.int .u64 0,.int .u64 0,.int .u64 0]))]
theorem Y1:(Tryz.prog.info? 246).map (fun i=>(i.zero.map fun z=>z.cells,i.size,i.bytes))=some (some (List.replicate 25 (Value.int .u64 0)).toArray,25,200):=by kernel_rfl
theorem QT (n:Nat)(hn:n≤64)(W:World):(Instr.makeSlice 240 (.int .i64 (n:Int)) (.int .i64 (n:Int))).run Tryz.prog W= .ok (.slice (some ⟨W.heap.size,0,none⟩) n n) (W.alloc (.cells (bR (List.replicate n BA)).toArray 246)):=by
 have h:=Y1
 cases hi:Tryz.prog.info? 246 with
 |none=>rw[hi]at h;cases h
 |some i=>
  rw[hi]at h;simp only[Option.map_some,Option.some.injEq,Prod.mk.injEq,Option.map_eq_some_iff]at h;obtain⟨⟨z,hz,hc⟩,hs,hb⟩:=h;have:=run_makeSlice (P:=Tryz.prog) (w:=W) 240 246 i z Tryz.underlying240 hi hz .i64 .i64 (n:Int) (n:Int) (by omega) (Int.le_refl _) (by rw[hs];omega) (by rw[hb];omega) (by omega);rw[this,hs,Int.toNat_natCast,Bz hc (by omega),Dz]
theorem pU (n:Nat)(hn:Pw n)(w:World):Calls Tryz.prog 193 #[.int .i64 (n:Int)] w fun e w'=>e= .returned (.bool true)∧w=w':=by
 rcases hn with rfl|rfl|rfl|rfl|rfl|rfl|rfl
 all_goals
  go_in;go_wp2;go_ret;exact⟨rfl,rfl⟩
def TB (n:Nat):aD:=⟨List.replicate n BA,0,0⟩
theorem KO (n:Nat)(hn:Pw n)(w:World):
  Calls Tryz.prog 129 #[.int .i64 (n:Int)] w fun e w'=>e= .returned (.tuple #[cO (w.heap.size+1),.nilIface])∧TabAt w' (w.heap.size+1) w.heap.size (TB n)∧Below w.heap.size w w':=by
 have HR:=qd (pU n hn w);have hle:=hn.le;have hpos:=hn.pos;have hmk:=QT n hle w;unfold cO;go_in;go_wp2_with fail;refine(HR.out).mono ?_;rintro x w1 ⟨rfl,rfl⟩;go_wp2;refine bodyPost_ret (v:= .tuple #[.pointer (some ⟨w.heap.size+1,0,none⟩),.nilIface]) (by simp[results,Tryz.results129,go_sem]) rfl ⟨rfl,⟨fun G hG=> ?_, ?_, ?_,by omega⟩, ?_⟩
 ·rw[(List.mem_replicate.1 hG).2];rfl
 ·have:=aj.new (w.alloc (.cells (bR (List.replicate n BA)).toArray 246)) 242 #[.slice (some ⟨w.heap.size,0,none⟩) n n,.int .i64 0,.int .i64 0];rw[World.size_alloc]at this;simpa[TB]using this
 ·exact(aj.new w 246 (bR (List.replicate n BA)).toArray).alloc _
 ·exact((Below.refl _ _).alloc (Nat.le_refl _) _).alloc (by simp) _
def Oz:kH:=List.replicate 8 .empty
def qE (n k:Nat):Tab:=List.replicate k Oz++List.replicate (n-k) BA
theorem zl (n:Nat):qE n n=bare n:=by unfold qE;rw[Nat.sub_self];simp[bare,Oz]
theorem oK {n k:Nat}(h:k≤n):(qE n k).length=n:=by simp[qE];omega
theorem KP {n k:Nat}(h:k<n):(qE n k).set k Oz=qE n (k+1):=by
 unfold qE;rw[List.set_append_right _ _ (by simp),List.length_replicate,Nat.sub_self,show n-k=(n-(k+1))+1 by omega,List.replicate_succ,List.set_cons_zero,List.replicate_succ',List.append_assoc];rfl
def dM (n k:Nat):aD:=⟨qE n k,0,0⟩
theorem abu {n:Nat}(hn:Pw n):lQ (dM n n):=by
 have h:=(Nu hn);refine⟨?_, ?_, ?_, ?_⟩
 ·show qH (qE n n);rw[zl];exact h.wide
 ·show Pw (qE n n).length;rw[oK (Nat.le_refl _)];exact hn
 ·show(0:Int)=((aH (qE n n)).length:Int);rw[zl]
  have:aH (bare n)=[]:=List.eq_nil_iff_forall_not_mem.2 fun e he=>by obtain⟨i,s,hh⟩:=qZ.1 he;rw[zF]at hh;cases hh
  rw[this];rfl
 ·show(0:Int)=(eU (qE n n):Int);rw[zl]
  have:∀n,eU (bare n)=0:=fun n=>by
   induction n with
   |zero=>rfl
   |succ k ih=>show eU (List.replicate 8 Slot.empty::bare k)=0;rw[zD,ih];rfl
  rw[this];rfl
theorem V7 (n:Nat)(hn:Pw n)(w:World):
  Calls Tryz.prog 87 #[.int .i64 (n:Int)] w fun e w'=>∃tb gb,w.heap.size≤tb∧w.heap.size≤gb∧e= .returned (.tuple #[cO tb,.nilIface])∧TabAt w' tb gb (dM n n)∧Below w.heap.size w w':=by
 have hle:=hn.le;have hpos:=hn.pos;have Y2:=qd (KO n hn w);unfold cO at Y2⊢;go_in;go_upto_region 1 with fail;go_wp2_with fail;refine(Y2.out).mono ?_;rintro x w1 ⟨rfl,hT1,hb1⟩;obtain⟨tb,htb⟩:∃tb,tb=w.heap.size+1:=⟨_,rfl⟩;obtain⟨gb,hgb⟩:∃gb,gb=w.heap.size:=⟨_,rfl⟩;rw[←htb]at hT1⊢;rw[←hgb]at hT1
 replace htb:w.heap.size≤tb:=by omega
 replace hgb:w.heap.size≤gb:=by omega
 clear Y2;obtain⟨c0,c1,c2⟩:=hT1.cells
 have hln:(TB n).gs.length=n:=by simp[TB]
 rw[hln]at c0;have HT:=qd (show TabAt w1 tb gb (dM n 0)from hT1);have ah:=qd hb1;clear hT1 hb1 hln;go_wp2;go_loopw [6,20] (fun _ i wr=>∃k:Nat,k≤n∧i= .int .i64 k∧TabAt wr tb gb (dM n k)∧Below w.heap.size w wr) (fun _ i _=>n-(intOf i).toNat)
 case atStart=>exact⟨0,by omega,rfl,HT.out,ah.out⟩
 case round=>
  clear HT ah c0 c1 c2;obtain⟨k,hk,rfl,hT,hm⟩:=hrel;by_cases hlt:k<n
  ·have hlt':(k:Int)<(n:Int):=by omega
   have hk0:(0:Int)≤(k:Int):=by omega
   obtain⟨c0,c1,c2⟩:=hT.cells;have hln:(dM n k).gs.length=n:=oK hk;rw[hln]at c0;have htl:=hT.aU;have hgl:=hT.aV;have wP:=qd (JE ⟨gb,k*25,none⟩ ⟨0,0,0⟩ wr);have HG:=qd (hT.group k (by rw[hln];exact hlt));have HT:=qd hT;have Hm:=qd hm;have HS:=qd (KP hlt);unfold aM aY at wP;clear hT hm hln;go_wp2_with fail;refine(wP.out).mono ?_;rintro x w2 ⟨rfl,hb2⟩;have Dx:=qd (KF gb 246 _ _ (k*25) _ w2 (HG.out.below hb2));have HT2:=qd (HT.out.below hb2);have V8:=qd (Hm.out.trans (hb2.mono Hm.out.size));unfold aY at Dx;clear hb2 HT Hm HG wP;go_wp2_with fail;refine(Dx.out).mono ?_;rintro x w3 ⟨rfl,hG3,kI⟩;have HT3:=qd (HT2.out.oG k (by rw[show(dM n k).gs.length=n from oK hk];exact hlt) kI hG3);have Hm3:=qd (V8.out.trans (kI.below (B:=w.heap.size) (by intro j hj;simp at hj;omega) V8.out.size));clear HT2 V8 hG3 kI;go_wp2;go_roundw
   case rel=>exact⟨k+1,by omega,by go_num,by have:=HT3.out;unfold dM at this⊢;rw[←HS.out];exact this,Hm3.out⟩
   case measure=>simp[intOf];omega
  ·obtain rfl:k=n:=by omega
   have hlt':¬(k:Int)<(k:Int):=by omega
   go_wp2;refine bodyPost_ret (v:= .tuple #[.pointer (some ⟨tb,0,none⟩),.nilIface]) (by simp[results,Tryz.results87,go_sem]) rfl (by first|exact⟨tb,gb,htb,hgb,rfl,hT,hm⟩|exact⟨tb,htb,gb,hgb,rfl,hT,hm⟩)
end Go.Proofs.YtgiaobmcbbfmnaaGreatDoor
