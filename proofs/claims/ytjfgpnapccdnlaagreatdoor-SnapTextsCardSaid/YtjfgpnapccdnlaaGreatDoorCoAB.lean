/- words.Number and words.Small by their contracts. -/
import Derived.Test.YtjfgpnapccdnlaaGreatDoorDecK
import Derived.Test.YtjfgpnapccdnlaaGreatDoorBuilder
import Derived.Test.YtjfgpnapccdnlaaGreatDoorWordsT
import Derived.Test.YtjfgpnapccdnlaaGreatDoorKit2
import Derived.Test.YtjfgpnapccdnlaaGreatDoorSqT
import Derived.Test.YtjfgpnapccdnlaaGreatDoorCoU
namespace Go.Proofs.YtjfgpnapccdnlaaGreatDoor
set_option maxRecDepth 100000
set_option maxHeartbeats 4000000
open Go.RowKit yS dF Go
section
variable {l : List UInt8} {E : Nat → Addr} {w w' : World} {n : Nat} {most : Int}
theorem ZI (hne:l≠[])(hall:∀b∈l,eH b=true):vS true l=true:=by
 unfold vS nR;have h1:l.all (uq true)=true:=List.all_eq_true.2 fun b hb=>hall b hb;rw[h1]
 cases l with
 |nil=>exact absurd rfl hne
 |cons _ _=>rfl
theorem Ra (h:vS true l=true):l≠[]∧∀b∈l,eH b=true:=by
 unfold vS nR at h;rw[Bool.and_eq_true]at h;refine⟨fun e=>by rw[e]at h;simp at h,fun b hb=>List.all_eq_true.1 h.1 b hb⟩
theorem ZJ (s:ByteArray)(w:World)(hs:s.size≤70000)(hN:iF E w)(hp:Lib.hasPrefix s.data.toList [48,120]=false):
  Calls Tryz.prog 83 #[.string s] w (xE E w (dec s.data.toList)):=by
 have hc:=Tryz.strings_CutPrefix s ⟨#[48,120]⟩ w;have e0:(⟨#[48,120]⟩:ByteArray).data.toList=[48,120]:=rfl;rw[e0,hp]at hc;generalize(⟨(Lib.trimPrefix s.data.toList [48,120]).toArray⟩:ByteArray)=t at hc;have hd:=MO s w hs hN;have HC:=qd hc;clear hc e0 hp;cases h:dec s.data.toList
 case' some n=>
  rw[h]at hd;have HD:=qd (show Calls Tryz.prog 127 #[.string s] w fun e w'=>e= .returned (.tuple #[.int .u64 n,.nilIface])∧Below w.heap.size w w' from hd)
 case' none=>
  rw[h]at hd;have HD:=qd (show Calls Tryz.prog 127 #[.string s] w fun e w'=>e= .returned (.tuple #[.int .u64 0,.iface 391 (.pointer (some (E 13)))])∧Below w.heap.size w w' from hd)
 all_goals
  clear h hd;go_in
  go_wp2_with (first
   |(go_at_call 126;refine HC.out.mono ?_;rintro e w1 ⟨rfl,rfl⟩)
   |(go_at_call 127;refine HD.out.mono ?_;rintro e w2 ⟨rfl,hb2⟩))
  go_ret2;exact⟨rfl,hb2⟩
theorem number16 (s:ByteArray)(w:World)(hN:iF E w)(hp:Lib.hasPrefix s.data.toList [48,120]=true)(hl:(Lib.trimPrefix s.data.toList [48,120]).length≤70000):
  Calls Tryz.prog 83 #[.string s] w (xE E w (hex (Lib.trimPrefix s.data.toList [48,120]))):=by
 have hc:=Tryz.strings_CutPrefix s ⟨#[48,120]⟩ w;have e0:(⟨#[48,120]⟩:ByteArray).data.toList=[48,120]:=rfl;rw[e0,hp]at hc;generalize hlt:Lib.trimPrefix s.data.toList [48,120]=l at hc hl⊢;obtain⟨t,ht⟩:∃t:ByteArray,t=⟨l.toArray⟩:=⟨_,rfl⟩
 have htl:t.data.toList=l:=by rw[ht]
 have hts:t.size=l.length:=by rw[ht];simp[ByteArray.size]
 rw[←ht]at hc;have FK:=Q9 t w (by omega) hN;have HF:=fun W=>vV t true W (by omega);rw[htl]at FK HF;have HC:=qd hc;have HN:=qd hN;clear hc e0 hp ht htl hlt hN
 cases h:hex l with
 |some n=>
  obtain⟨hne,hall,h16,h4⟩:=Bb h;rw[p16_hex h]at FK;rw[ZI hne hall]at HF;have HP:=qd (show Calls Tryz.prog 128 #[.string t,.int .i64 16,.int .i64 64] w fun e w'=>e= .returned (.tuple #[.int .u64 n,.nilIface])∧Below w.heap.size w w' from FK);have HF':=qd HF
  have b1:¬(16:Int)<(t.size:Int):=by omega
  clear h hne hall FK HF h4 hts h16;go_in
  go_wp2_with (first
   |(go_at_call 126;refine HC.out.mono ?_;rintro e w1 ⟨rfl,rfl⟩)
   |(go_at_call 128;refine HP.out.mono ?_;rintro e w2 ⟨rfl,hb2⟩)
   |(go_at_call 129;refine(HF'.out _).mono ?_;rintro e w3 ⟨rfl,hb3⟩))
  go_ret2;exact⟨rfl,hb2.trans (hb3.mono hb2.size)⟩
 |none=>
  have hn:=YB h
  cases hr:p16 l with
  |ok u=>
   rw[hr]at FK;have HP:=qd (show Calls Tryz.prog 128 #[.string t,.int .i64 16,.int .i64 64] w fun e w'=>e= .returned (.tuple #[.int .u64 u,.nilIface])∧Below w.heap.size w w' from FK);cases hf:vS true l
   case' true=>
    have h16:16<l.length:=by
     obtain⟨q1,q2⟩:=Ra hf;rcases Nat.lt_or_ge 16 l.length with q|q
     ·exact q
     ·exact absurd ⟨q1,q2,q⟩ hn
    have b1:(16:Int)<(t.size:Int):=by omega
   case' false=>
    skip
   all_goals
    rw[hf]at HF;have HF':=qd HF;clear h hn hr hf FK HF;go_in
    go_wp2_with (first
     |(go_at_call 126;refine HC.out.mono ?_;rintro e w1 ⟨rfl,rfl⟩)
     |(go_at_call 128;refine HP.out.mono ?_;rintro e w2 ⟨rfl,hb2⟩)
     |(go_at_call 129;refine(HF'.out _).mono ?_;rintro e w3 ⟨rfl,hb3⟩;have h3:=((HN.out.below hb2 (Nat.le_refl _)).below hb3 (Nat.le_refl _)).e13;simp only[dL,gE]at h3))
    go_quiet (fail);go_wp2;go_ret2;exact⟨rfl,below_drewN (hb2.trans (hb3.mono hb2.size)) _⟩
  |_=>
   rw[hr]at FK;have HP:=qd (show Calls Tryz.prog 128 #[.string t,.int .i64 16,.int .i64 64] w fun e w'=>∃m p,e= .returned (.tuple #[.int .u64 m,.iface 359 p])∧Below w.heap.size w w' from FK);clear h hn hr FK HF;go_in
   go_wp2_with (first
    |(go_at_call 126;refine HC.out.mono ?_;rintro e w1 ⟨rfl,rfl⟩)
    |(go_at_call 128;refine HP.out.mono ?_;rintro e w2 ⟨m,p,rfl,hb2⟩;have h3:=(HN.out.below hb2 (Nat.le_refl _)).e13;simp only[dL,gE]at h3))
   go_quiet (fail);go_wp2;go_ret2;exact⟨rfl,below_drewN hb2 _⟩
theorem OQ (s:ByteArray)(w:World)(hs:s.size≤70000)(hN:iF E w):Calls Tryz.prog 83 #[.string s] w (xE E w (numOf s.data.toList)):=by
 unfold numOf
 have hl:s.data.toList.length=s.size:=by simp
 cases hp:Lib.hasPrefix s.data.toList [48,120]with
 |true=>
  simp only[if_true];exact number16 s w hN hp (by unfold Lib.trimPrefix;split<;>simp<;>omega)
 |false=>
  simp only[Bool.false_eq_true,if_false];exact ZJ s w hs hN hp
def aeK (E:Nat→Addr)(w:World)(r:Option Nat)(most:Int)(e:Ending)(w':World):Prop:=
 match r with
 |some n=>if most<0∨most<n then e= .returned (.tuple #[.int .i64 0,.iface 391 (.pointer (some (E 1)))])∧Below w.heap.size w w' else e= .returned (.tuple #[.int .i64 n,.nilIface])∧Below w.heap.size w w'
 |none=>e= .returned (.tuple #[.int .i64 0,.iface 391 (.pointer (some (E 13)))])∧Below w.heap.size w w'
end
theorem I5 (tb gb:Nat)(T:aD)(mb:Nat)(mt:TypeId)(mD jH:List Value)(mo:Nat)(a0 l0:bF)(m:Int)(c:bF)(i:Nat)(hi:i<T.gs.length)(w:World)(h:TabAt w tb gb T)(hM:Met w mb mt mD jH mo a0 l0 m)(hmt:mb≠tb)(lX:mb≠gb):
  Calls Tryz.prog 316 #[cK tb,aN (some ⟨mb,mo,none⟩) c,.int .i64 (i:Int)] w fun x w'=>x= .returned (.tuple #[bg ⟨gb,i*25,none⟩,.bool true])∧Met w' mb mt mD jH mo (je a0 c) (je l0 c) m∧Mod [mb] w w':=by
 obtain⟨W,hW,hB,hL,hR⟩:=qP w 145 #[.pointer (some ⟨mb,mo,none⟩),.int .i64 c.p,.int .i64 c.v,.int .i64 c.u] 198 #[.pointer none];have lc:=hL.c4;have K8:=hR.cell 0;simp only[List.getElem?_toArray,List.getElem?_cons_zero]at K8;have hml:=hM.lt;have htl:=h.aU;have hgl:=h.aV;have HW:=qd hW
 have hi':(i:Int)<(T.gs.length:Int):=by omega
 have hi0:¬((i:Int)<0):=by omega
 have hi2:(0:Int)≤(i:Int):=by omega
 have wJ:=qd (wR ⟨gb,i*25,none⟩ mb mt mD jH mo a0 l0 m c W.drew (hM.below (hB.trans ((Below.refl _ _).drew.mono hB.size))));obtain⟨tQ,tc1,tc2⟩:=(h.below hB).cells;unfold aN at wJ;unfold cK aN bg;have HT:=qd (h.below hB);have HR:=qd (hR);have ah:=qd (Mod.of_below hB [mb]);clear hW hB h hM hL hR;go_in;go_upto_region 1 with fail;rw[←HW.out];go_upto_region 3 with fail;refine rT (fun(w':World)=>w'.cell? ⟨tb,0,none⟩=some (.slice (some ⟨gb,0,none⟩) T.gs.length T.gs.length)∧w'.cell? ⟨w.heap.size,0,none⟩=some (.pointer (some ⟨mb,mo,none⟩))∧w'.cell? ⟨w.heap.size,1,none⟩=some (.int .i64 c.p)∧w'.cell? ⟨w.heap.size,2,none⟩=some (.int .i64 c.v)∧w'.cell? ⟨w.heap.size,3,none⟩=some (.int .i64 c.u)) [7,8] ?_;have hHeld:=(⟨tQ,lc.1,lc.2.1,lc.2.2.1,lc.2.2.2⟩:_∧_∧_∧_∧_);refine vW 0 rfl ?_;refine vW 1 rfl ?_;refine vW 2 rfl ?_;refine vT 3 rfl ?_;refine vW 4 rfl ?_;refine vW 5 rfl ?_;refine vT 6 rfl ?_;refine nT 7 rfl fun K hK=> ?_;go_simp;refine(wJ.out).mono ?_;rintro x w1 ⟨rfl,hM1,hm⟩;replace hm:Mod [mb] W w1:=(Mod.drewN [mb] W 1).then hm;clear lc K8;replace HT:=qM hm HT;replace HR:=qM hm HR;replace ah:=qU ah hm;have HM:=qd (hM1);clear hM1 hm;unfold bg;have K8:=HR.out.cell 0;simp only[List.getElem?_toArray,List.getElem?_cons_zero]at K8;have rf0:=HR.out.frozen 0;have n0:=HT.out.cells.1;go_simp;refine kO hK ?_;clear hK K;refine nT 8 rfl fun K hK=> ?_;go_simp;refine kO hK ?_;clear hK K;refine vL 9 rfl ?_;refine aX (by kernel_rfl) ?_ _;have q1:=qJ HT.out.aU (qJ HT.out.aV (qJ HR.out.lt HM.out.lt))
 have hnew:=(HR.out.ak 0 (.pointer (some ⟨gb,i*25,none⟩)));have hm:=((Mod.refl [(w.heap.size+1)] w1).sl 0 (.pointer (some ⟨gb,i*25,none⟩)));simp only[pt]at hnew;refine dx (F:=fun v=>aj v (w.heap.size+1) 198 #[.pointer (some ⟨gb,i*25,none⟩)]∧Mod [(w.heap.size+1)] w1 v) ⟨hnew,hm⟩ ?_;clear hnew hm;rintro w2 ⟨hnew,hm⟩;clear K8 rf0;replace HT:=qM hm HT;replace HM:=qM hm HM;replace ah:=qU ah hm;replace HR:=qd hnew;clear hnew hm;have K8:=HR.out.cell 0;simp only[List.getElem?_toArray,List.getElem?_cons_zero]at K8;go_wp2;refine bodyPost_ret (v:= .tuple #[.agg #[.pointer (some ⟨gb,i*25,none⟩)],.bool true]) (by simp[results,Tryz.results316,go_sem,K8]) rfl ⟨rfl,HM.out,ah.out⟩
theorem MQ (tb gb:Nat)(T:aD)(mb:Nat)(mt:TypeId)(mD jH:List Value)(mo:Nat)(a0 l0:bF)(m:Int)(c:bF)(i:Nat)(hi:i<T.gs.length)(w:World)(h:TabAt w tb gb T)(hM:Met w mb mt mD jH mo a0 l0 m)(hmt:mb≠tb)(lX:mb≠gb):
  Calls Tryz.prog 311 #[cK tb,aN (some ⟨mb,mo,none⟩) c,.int .i64 (i:Int)] w fun x w'=>x= .returned .nilIface∧TabAt w' tb gb {T with gs:=T.gs.set i (List.replicate 8 .empty)}∧Met w' mb mt mD jH mo (je a0 c) (je l0 c) m∧Mod [mb,tb,gb] w w':=by
 have hB:=(Below.refl w.heap.size w).alloc (Nat.le_refl _) (.cells #[.pointer (some ⟨mb,mo,none⟩),.int .i64 c.p,.int .i64 c.v,.int .i64 c.u] 145);have hL:=aj.new w 145 #[.pointer (some ⟨mb,mo,none⟩),.int .i64 c.p,.int .i64 c.v,.int .i64 c.u];obtain⟨W,hW⟩:∃W,W=w.alloc (.cells #[.pointer (some ⟨mb,mo,none⟩),.int .i64 c.p,.int .i64 c.v,.int .i64 c.u] 145):=⟨_,rfl⟩;rw[←hW]at hB hL;obtain⟨Oy,Oz,OA,OB⟩:=hL.c4;have hml:=hM.lt;have htl:=h.aU;have hgl:=h.aV;have HW:=qd hW;have wJ:=qd (I5 tb gb T mb mt mD jH mo a0 l0 m c i hi W (h.below hB) (hM.below hB) hmt lX);unfold cK aN bg at wJ;unfold cK aN;have HT:=qd (h.below hB);have ah:=qd (Mod.of_below hB [mb,tb,gb]);clear hW hB h hM hL;go_in;go_upto_region 1 with fail;rw[←HW.out];go_wp2_with fail;refine(wJ.out).mono ?_;rintro x w1 ⟨rfl,hM1,hm⟩;clear Oy Oz OA OB;replace HT:=qM hm HT;replace ah:=qU ah hm;clear hm;have HM:=qd (hM1);clear hM1;go_upto_region 4 with fail;have q1:=qJ HT.out.aU (qJ HT.out.aV (qJ HM.out.lt ah.out.size));refine dQ 198 #[.pointer (some ⟨gb,i*25,none⟩)] ?_;rintro w2 ⟨hnew,hb⟩;replace HT:=qB hb HT;replace HM:=qB hb HM;replace ah:=qT ah hb;have HV:=qd (hnew);clear hnew hb;have Ap:=HV.out.cell 0;simp only[List.getElem?_toArray,List.getElem?_cons_zero]at Ap;have Dz:=qd (KU gb 254 _ _ (i*25) _ w2 (HT.out.group i hi));unfold bg at Dz;go_wp2_with fail;refine(Dz.out).mono ?_;rintro x w3 ⟨rfl,hG3,hm⟩;have xS:=HT.out.oM i hi hm hG3;clear HT hG3 HV Ap
 replace HM:=qM hm HM;replace ah:=qU ah hm;have HT:=qd (xS);clear hm xS;go_wp2;go_ret;exact⟨rfl,HT.out,HM.out,ah.out⟩
section
variable {T : aD} {i s : Nat}
structure lY (T:aD):Prop where
 wide:qH T.gs
 pow:Pw T.gs.length
 live:T.live=((aI T.gs).length:Int)
 bO:T.bO=(eP T.gs:Int)
theorem lY.small (h:lY T):Small T:=by
 have h1:=VW h.wide;have h2:=h.pow.le;exact⟨by rw[h.live];omega,by rw[h.live];omega,by rw[h.bO];omega,by rw[h.bO];omega,h2⟩
theorem lY.put (h:lY T)(hi:i<T.gs.length)(hs:s<(T.gs.getD i []).length)(x:Slot){l t:Int}(hl:l=T.live+x.ents.length-(aG T.gs i s).ents.length)(ht:t=T.bO+x.kI-(aG T.gs i s).kI):lY ⟨putAt T.gs i s x,l,t⟩:=by
 have h1:=(C8 hi hs x).length_eq;have h2:=wP hi hs x;rw[List.length_append,List.length_append]at h1;have h3:=h.live;have h4:=h.bO;exact⟨h.wide.put _ _ _,by show Pw (putAt _ _ _ _).length;rw[gM];exact h.pow,by show l=((aI (putAt T.gs i s x)).length:Int);omega,by show t=(eP (putAt T.gs i s x):Int);omega⟩
theorem lY.erase (h:lY T){e:ay}(he:aG T.gs i s= .full e):lY (lD T i s):=by
 obtain⟨hi,hs⟩:=j6 (gs:=T.gs) (i:=i) (s:=s) (by rw[he];exact fun h=>by cases h);unfold lD
 cases ho:dA (T.gs.getD i [])with
 |true=>exact h.put hi hs _ (by rw[he];simp[Slot.ents]<;>omega) (by rw[he];simp[Slot.kI,Slot.iD]<;>omega)
 |false=>exact h.put hi hs _ (by rw[he];simp[Slot.ents]<;>omega) (by rw[he];simp[Slot.kI,Slot.iD]<;>omega)
theorem lY.place (h:lY T)(hi:i<T.gs.length)(hs:s<(T.gs.getD i []).length)(he:(aG T.gs i s).isFull=false)(e:ay):lY (jA T i s e):=by
 unfold jA
 cases hx:aG T.gs i s with
 |full y=>rw[hx]at he;cases he
 |empty=>exact h.put hi hs _ (by rw[hx];simp[Slot.ents]<;>omega) (by rw[hx];simp[Slot.kI,Slot.iD]<;>omega)
 |qg=>exact h.put hi hs _ (by rw[hx];simp[Slot.ents]<;>omega) (by rw[hx];simp[Slot.kI,Slot.iD]<;>omega)
theorem lY.replace (h:lY T){v:Nat}{e:ay}(he:aG T.gs i s= .full e):lY (replaceM T i s v e):=by
 obtain⟨hi,hs⟩:=j6 (gs:=T.gs) (i:=i) (s:=s) (by rw[he];exact fun h=>by cases h);exact h.put hi hs _ (by rw[he];simp[Slot.ents]<;>omega) (by rw[he];simp[Slot.kI,Slot.iD]<;>omega)
def fM (T:aD)(i s:Nat):aD:=if(aG T.gs i s).isFull then lD T i s else T
def takeN (T:aD)(i:Nat):Nat→aD
 |0=>T
 |k+1=>fM (takeN T i k) i k
theorem lY.aeW (h:lY T)(i s:Nat):lY (fM T i s):=by
 unfold fM
 cases hx:aG T.gs i s with
 |full e=>rw[if_pos (by rfl)];exact h.erase hx
 |empty=>rw[if_neg (by simp[Slot.isFull])];exact h
 |qg=>rw[if_neg (by simp[Slot.isFull])];exact h
theorem lY.tkN (h:lY T)(i:Nat):∀k,lY (takeN T i k)
 |0=>h
 |k+1=>(h.tkN i k).aeW i k
theorem Cv (T:aD)(i s:Nat):(lD T i s).gs.length=T.gs.length:=gM _ _ _ _
theorem sG (T:aD)(i:Nat):∀k,(takeN T i k).gs.length=T.gs.length
 |0=>rfl
 |k+1=>by
  show(fM _ _ _).gs.length=_;unfold fM;split
  ·rw[Cv,sG T i k]
  ·exact sG T i k
theorem ab9 {w w':World}{S:List Nat}{base:Nat}{e:TypeId}{size n:Nat}{v:Value}{xs:List Value}(h:w.ownsRow base e size v n xs)(hm:Mod S w w')(hS:∀k,k∈S→k<base):w'.ownsRow base e size v n xs:=by
 refine⟨h.1, ?_⟩;rcases h.2 with hn|⟨g,cap,cur,hv,hb,hg,rest⟩
 ·exact .inl hn
 ·exact .inr ⟨g,cap,cur,hv,hb,(hm.block g (Array.getElem?_eq_some_iff.1 hg).1 (fun hh=>absurd (hS g hh) (by omega))).trans hg,rest⟩
instance {w w':World}{base:Nat}{e:TypeId}{size n:Nat}{v:Value}{xs:List Value}:Md (w.ownsRow base e size v n xs) w w' (w'.ownsRow base e size v n xs) (fun S=>∀k,k∈S→k<base):=⟨fun h hm hs=>ab9 h hm hs⟩
end
section
structure uN (E:Nat→Addr)(w:World):Prop where
 of:∀k,k=1∨k=2∨k=5→dL E w k
theorem uN.at_ {E:Nat→Addr}{w:World}(h:uN E w)(k:Nat)(_:1≤k)(_:k≤16)(hk:k=1∨k=2∨k=5:=by decide):dL E w k:=h.of k hk
theorem uN.below {E:Nat→Addr}{w w':World}{B:Nat}(h:uN E w)(hb:Below B w w')(hB:w.heap.size≤B):uN E w':=⟨fun k hk=>(h.of k hk).below hb hB⟩
theorem eU.core {E:Nat→Addr}{w:World}(h:eU E w):uN E w:=⟨fun k hk=>h.at_ k (by omega) (by omega)⟩
structure Env (W0:World)(E:Nat→Addr)(w:World):Prop where
 below:Below W0.heap.size W0 w
 abk:uN E W0
 tz0:gF W0
section
variable {W0 w w' : World} {E : Nat → Addr}
theorem Env.size (h:Env W0 E w):W0.heap.size≤w.heap.size:=h.below.size
theorem Env.errs (h:Env W0 E w):uN E w:=h.abk.below h.below (Nat.le_refl _)
theorem Env.tz (h:Env W0 E w):gF w:=h.tz0.below h.below
theorem Env.adi (h:Env W0 E w):21 <W0.heap.size:=World.block_lt_of_cell? W0 _ (h.tz0 0 (by omega))
theorem Env.mod {S:List Nat}(h:Env W0 E w)(hm:Mod S w w')(hS:∀k,k∈S→W0.heap.size≤k):Env W0 E w':=⟨h.below.trans (hm.below hS h.size),h.abk,h.tz0⟩
instance {w w':World}{W0:World}{E:Nat→Addr}:Md (Env W0 E w) w w' (Env W0 E w') (fun S=>∀k,k∈S→W0.heap.size≤k):=⟨fun h hm hs=>h.mod hm hs⟩
theorem Env.next (h:Env W0 E w)(hb:Below w.heap.size w w'):Env W0 E w':=h.mod (Mod.of_below hb []) (by simp)
end
structure MP where
 mb:Nat
 mt:TypeId
 pre:List Value
 post:List Value
 mo:Nat
 m:Int
structure bJ where
 all:bF
 last:bF
def bJ.add (x:bJ)(c:bF)(n:Nat):bJ:=⟨gB x.all c n,gB x.last c n⟩
theorem DC (a c:bF)(k:Nat):∀n,gB (gB a c k) c n=gB a c (k+n)
 |0=>rfl
 |n+1=>by
  show je (gB (gB a c k) c n) c=je (gB a c (k+n)) c;rw[DC a c k n]
theorem bJ.add_add (x:bJ)(c:bF)(k n:Nat):(x.add c k).add c n=x.add c (k+n):=by unfold bJ.add;rw[DC,DC]
def aQ (w:World)(P:MP)(x:bJ):Prop:=Met w P.mb P.mt P.pre P.post P.mo x.all x.last P.m
def MP.addr (P:MP):Addr:=⟨P.mb,P.mo,none⟩
section
variable {w w' : World} {P : MP} {x : bJ}
theorem aQ.lt (h:aQ w P x):P.mb<w.heap.size:=Met.lt h
theorem aQ.mod {S:List Nat}(h:aQ w P x)(hm:Mod S w w')(hg:P.mb∉S):aQ w' P x:=Met.mod h hm hg
instance {w w':World}{P:MP}{x:bJ}:Md (aQ w P x) w w' (aQ w' P x) (fun S=>P.mb∉S):=⟨fun h hm hs=>aQ.mod h hm hs⟩
theorem aQ.below (h:aQ w P x)(hb:Below w.heap.size w w'):aQ w' P x:=Met.below h hb
end
end
theorem BG {z:Array Value}{v:Value}{k:Nat}(hz:z=(List.replicate k v).toArray)(hk:0<k)(n:Nat):madeCells z n=(List.replicate n v).toArray:=by
 apply Array.toList_inj.1;subst hz;unfold madeCells;rw[Array.toList_map];refine List.ext_getElem (by simp) fun i h1 h2=> ?_;simp only[List.getElem_map,List.getElem_replicate];rw[getElem!_pos _ _ (by simp;exact Nat.mod_lt _ hk)];simp
def BH:kK:=List.replicate 8 (.full ⟨0,0,0⟩)
theorem Uj:xR BH=List.replicate 25 (.int .u64 0):=by rfl
theorem DF:∀n,bY (List.replicate n BH)=List.replicate (n*25) (.int .u64 0)
 |0=>rfl
 |n+1=>by
  show xR BH++bY (List.replicate n BH)=_;rw[DF n,Uj,Nat.add_mul,Nat.add_comm,List.replicate_append_replicate]
def agE:Value:= .agg #[.int .u64 0,.agg (Array.replicate 8 (.agg #[.int .u64 0,.int .u64 0,.int .u64 0]))]
theorem ZK:(Tryz.prog.info? 254).map (fun i=>(i.zero.map fun z=>z.cells,i.size,i.bytes))=some (some (List.replicate 25 (Value.int .u64 0)).toArray,25,200):=by kernel_rfl
theorem Rb (n:Nat)(hn:n≤64)(W:World):(Instr.makeSlice 248 (.int .i64 (n:Int)) (.int .i64 (n:Int))).run Tryz.prog W= .ok (.slice (some ⟨W.heap.size,0,none⟩) n n) (W.alloc (.cells (bY (List.replicate n BH)).toArray 254)):=by
 have h:=ZK
 cases hi:Tryz.prog.info? 254 with
 |none=>rw[hi]at h;cases h
 |some i=>
  rw[hi]at h;simp only[Option.map_some,Option.some.injEq,Prod.mk.injEq,Option.map_eq_some_iff]at h;obtain⟨⟨z,hz,hc⟩,hs,hb⟩:=h;have:=run_makeSlice (P:=Tryz.prog) (w:=W) 248 254 i z Tryz.underlying248 hi hz .i64 .i64 (n:Int) (n:Int) (by omega) (Int.le_refl _) (by rw[hs];omega) (by rw[hb];omega) (by omega);rw[this,hs,Int.toNat_natCast,BG hc (by omega),DF]
theorem pO (n:Nat)(hn:Pw n)(w:World):Calls Tryz.prog 197 #[.int .i64 (n:Int)] w fun e w'=>e= .returned (.bool true)∧w=w':=by
 rcases hn with rfl|rfl|rfl|rfl|rfl|rfl|rfl
 all_goals
  go_in;go_wp2;go_ret;exact⟨rfl,rfl⟩
def Uk (n:Nat):aD:=⟨List.replicate n BH,0,0⟩
theorem K9 (n:Nat)(hn:Pw n)(w:World):
  Calls Tryz.prog 131 #[.int .i64 (n:Int)] w fun e w'=>e= .returned (.tuple #[cK (w.heap.size+1),.nilIface])∧TabAt w' (w.heap.size+1) w.heap.size (Uk n)∧Below w.heap.size w w':=by
 have HR:=qd (pO n hn w);have hle:=hn.le;have hpos:=hn.pos;have hmk:=Rb n hle w;unfold cK;go_in;go_wp2_with fail;refine(HR.out).mono ?_;rintro x w1 ⟨rfl,rfl⟩;go_wp2;refine bodyPost_ret (v:= .tuple #[.pointer (some ⟨w.heap.size+1,0,none⟩),.nilIface]) (by simp[results,Tryz.results131,go_sem]) rfl ⟨rfl,⟨fun G hG=> ?_, ?_, ?_,by omega⟩, ?_⟩
 ·rw[(List.mem_replicate.1 hG).2];rfl
 ·have:=aj.new (w.alloc (.cells (bY (List.replicate n BH)).toArray 254)) 250 #[.slice (some ⟨w.heap.size,0,none⟩) n n,.int .i64 0,.int .i64 0];rw[World.size_alloc]at this;simpa[Uk]using this
 ·exact(aj.new w 254 (bY (List.replicate n BH)).toArray).alloc _
 ·exact((Below.refl _ _).alloc (Nat.le_refl _) _).alloc (by simp) _
def OT:kK:=List.replicate 8 .empty
def qF (n k:Nat):Tab:=List.replicate k OT++List.replicate (n-k) BH
theorem zf (n:Nat):qF n n=bare n:=by unfold qF;rw[Nat.sub_self];simp[bare,OT]
theorem oP {n k:Nat}(h:k≤n):(qF n k).length=n:=by simp[qF];omega
theorem La {n k:Nat}(h:k<n):(qF n k).set k OT=qF n (k+1):=by
 unfold qF;rw[List.set_append_right _ _ (by simp),List.length_replicate,Nat.sub_self,show n-k=(n-(k+1))+1 by omega,List.replicate_succ,List.set_cons_zero,List.replicate_succ',List.append_assoc];rfl
def dM (n k:Nat):aD:=⟨qF n k,0,0⟩
theorem acd {n:Nat}(hn:Pw n):lY (dM n n):=by
 have h:=(NW hn);refine⟨?_, ?_, ?_, ?_⟩
 ·show qH (qF n n);rw[zf];exact h.wide
 ·show Pw (qF n n).length;rw[oP (Nat.le_refl _)];exact hn
 ·show(0:Int)=((aI (qF n n)).length:Int);rw[zf]
  have:aI (bare n)=[]:=List.eq_nil_iff_forall_not_mem.2 fun e he=>by obtain⟨i,s,hh⟩:=qZ.1 he;rw[zI]at hh;cases hh
  rw[this];rfl
 ·show(0:Int)=(eP (qF n n):Int);rw[zf]
  have:∀n,eP (bare n)=0:=fun n=>by
   induction n with
   |zero=>rfl
   |succ k ih=>show eP (List.replicate 8 Slot.empty::bare k)=0;rw[zH,ih];rfl
  rw[this];rfl
theorem WM (n:Nat)(hn:Pw n)(w:World):
  Calls Tryz.prog 86 #[.int .i64 (n:Int)] w fun e w'=>∃tb gb,w.heap.size≤tb∧w.heap.size≤gb∧e= .returned (.tuple #[cK tb,.nilIface])∧TabAt w' tb gb (dM n n)∧Below w.heap.size w w':=by
 have hle:=hn.le;have hpos:=hn.pos;have ZL:=qd (K9 n hn w);unfold cK at ZL⊢;go_in;go_upto_region 1 with fail;go_wp2_with fail;refine(ZL.out).mono ?_;rintro x w1 ⟨rfl,hT1,hb1⟩;obtain⟨tb,htb⟩:∃tb,tb=w.heap.size+1:=⟨_,rfl⟩;obtain⟨gb,hgb⟩:∃gb,gb=w.heap.size:=⟨_,rfl⟩;rw[←htb]at hT1⊢;rw[←hgb]at hT1
 replace htb:w.heap.size≤tb:=by omega
 replace hgb:w.heap.size≤gb:=by omega
 clear ZL;obtain⟨c0,c1,c2⟩:=hT1.cells
 have hln:(Uk n).gs.length=n:=by simp[Uk]
 rw[hln]at c0;have HT:=qd (show TabAt w1 tb gb (dM n 0)from hT1);have ah:=qd hb1;clear hT1 hb1 hln;go_wp2;go_loopw [6,20] (fun _ i wr=>∃k:Nat,k≤n∧i= .int .i64 k∧TabAt wr tb gb (dM n k)∧Below w.heap.size w wr) (fun _ i _=>n-(intOf i).toNat)
 case atStart=>exact⟨0,by omega,rfl,HT.out,ah.out⟩
 case round=>
  clear HT ah c0 c1 c2;obtain⟨k,hk,rfl,hT,hm⟩:=hrel;by_cases hlt:k<n
  ·have hlt':(k:Int)<(n:Int):=by omega
   have hk0:(0:Int)≤(k:Int):=by omega
   obtain⟨c0,c1,c2⟩:=hT.cells;have hln:(dM n k).gs.length=n:=oP hk;rw[hln]at c0;have htl:=hT.aU;have hgl:=hT.aV;have wJ:=qd (JN ⟨gb,k*25,none⟩ ⟨0,0,0⟩ wr);have HG:=qd (hT.group k (by rw[hln];exact hlt));have HT:=qd hT;have Hm:=qd hm;have HS:=qd (La hlt);unfold aN bg at wJ;clear hT hm hln;go_wp2_with fail;refine(wJ.out).mono ?_;rintro x w2 ⟨rfl,hb2⟩;have Dz:=qd (KU gb 254 _ _ (k*25) _ w2 (HG.out.below hb2));have HT2:=qd (HT.out.below hb2);have WO:=qd (Hm.out.trans (hb2.mono Hm.out.size));unfold bg at Dz;clear hb2 HT Hm HG wJ;go_wp2_with fail;refine(Dz.out).mono ?_;rintro x w3 ⟨rfl,hG3,kL⟩;have HT3:=qd (HT2.out.oM k (by rw[show(dM n k).gs.length=n from oP hk];exact hlt) kL hG3);have Hm3:=qd (WO.out.trans (kL.below (B:=w.heap.size) (by intro j hj;simp at hj;omega) WO.out.size));clear HT2 WO hG3 kL;go_wp2;go_roundw
   case rel=>exact⟨k+1,by omega,by go_num,by have:=HT3.out;unfold dM at this⊢;rw[←HS.out];exact this,Hm3.out⟩
   case measure=>simp[intOf];omega
  ·obtain rfl:k=n:=by omega
   have hlt':¬(k:Int)<(k:Int):=by omega
   go_wp2;refine bodyPost_ret (v:= .tuple #[.pointer (some ⟨tb,0,none⟩),.nilIface]) (by simp[results,Tryz.results86,go_sem]) rfl (by first|exact⟨tb,gb,htb,hgb,rfl,hT,hm⟩|exact⟨tb,htb,gb,hgb,rfl,hT,hm⟩)
end Go.Proofs.YtjfgpnapccdnlaaGreatDoor
