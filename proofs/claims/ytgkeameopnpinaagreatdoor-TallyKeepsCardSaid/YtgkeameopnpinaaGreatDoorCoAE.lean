/- A table's Least by its contract. -/
import Derived.Test.YtgkeameopnpinaaGreatDoorCoAB
import Derived.Test.YtgkeameopnpinaaGreatDoorSqM
import Derived.Test.YtgkeameopnpinaaGreatDoorCoO
import Derived.Test.YtgkeameopnpinaaGreatDoorLaneP
namespace Go.Proofs.YtgkeameopnpinaaGreatDoor
set_option maxRecDepth 100000
set_option maxHeartbeats 8000000
open Go.RowKit bY
section
variable {j k : Nat} {es : List av} {e : av}
theorem p8 {α:Type}{l:List α}{y:α}(h:l[k]?=some y):l.take (k+1)=l.take k++[y]:=by rw[List.take_add_one,h];rfl
def mg (f:av)(o:Option av)(e:av):Option av:=if !bB e f && (match o with|none=>true|some b=>bB e b)then some e else o
def dL (f:av)(o:Option av)(es:List av):Option av:=es.foldl (mg f) o
theorem NP (f:av)(o:Option av)(h:es[j]?=some e):dL f o (es.take (j+1))=mg f (dL f o (es.take j)) e:=by
 unfold dL;rw[p8 h,List.foldl_append];rfl
theorem Le (f:av)(gs:Tab)(hk:k<gs.length):dL f none (aL (gs.take (k+1)))=dL f (dL f none (aL (gs.take k))) (bO (gs.getD k [])):=by
 have h:gs[k]?=some (gs.getD k []):=by rw[List.getD_eq_getElem?_getD,List.getElem?_eq_getElem hk];rfl
 rw[p8 h];unfold dL aL;rw[List.flatMap_append,List.foldl_append];simp
def vN (o:Option av):Array Value:=(aT (o.getD ⟨0,0,0⟩)).toArray
theorem IV {w:World}{base n c:Nat}{A:Option Addr}(h:w.ownsRow base 159 3 (.slice A n c) n (es.flatMap aT))(he:es[j]?=some e):
  ∃g,A=some ⟨g,0,none⟩∧base≤g∧w.cell? ⟨g,j*3,none⟩=some (.int .u64 (e.key:Int))∧w.cell? ⟨g,j*3+1,none⟩=some (.int .u64 (e.val:Int))∧w.cell? ⟨g,j*3+2,none⟩=some (.int .u64 (e.hash:Int))∧j<n:=by
 have hl:=h.1;rw[fU]at hl;obtain⟨hj,_⟩:=List.getElem?_eq_some_iff.1 he
 have hjn:j<n:=by omega
 rcases h.2 with hn|⟨g,cap,cur,hv,hb,hg,h1,h2,h3,h4⟩
 ·omega
 ·cases hv;refine⟨g,rfl,hb, ?_⟩
  have hs:es.flatMap aT=(es.take j).flatMap aT++(aT e++(es.drop (j+1)).flatMap aT):=by
   conv=>lhs;rw[←List.take_append_drop j es,List.drop_eq_getElem?_toList_append,he]
   simp
  have hlt:((es.take j).flatMap aT).length=j*3:=by rw[fU,List.length_take];omega
  have hc:∀q,q<3→w.cell? ⟨g,j*3+q,none⟩=(aT e)[q]?:=fun q hq=>by
   have:=h.cellAt (j*3+q) (by omega);rw[this,hs,List.getElem?_append_right (by omega),hlt,Nat.add_sub_cancel_left,List.getElem?_append_left (by simpa[aT]using hq)]
  exact⟨hc 0 (by omega),hc 1 (by omega),hc 2 (by omega),hjn⟩
theorem Dv {W0:World}{E:Nat→Addr}(tb gb:Nat)(T:aB)(P:MP)(x:bI)(c:aZ)(hash key:Nat)(hok:T.gs.length≤64)(w:World)(h:TabAt w tb gb T)(hM:aM w P x)(hE:Env W0 E w)(hmt:P.mb≠tb)(fZ:P.mb≠gb)(hb0:W0.heap.size≤P.mb):
  Calls Tryz.prog 198 #[bP tb,aG (some ⟨P.mb,P.mo,none⟩) c,.int .u64 (hash:Int),.int .u64 (key:Int)] w fun e w'=>e= .returned (eO (dL ⟨key,0,hash⟩ none (aL T.gs)))∧aM w' P (x.add c T.gs.length)∧Mod [P.mb] w w':=by
 obtain⟨n,hn⟩:∃n,n=T.gs.length:=⟨_,rfl⟩;obtain⟨fr,hfr⟩:∃fr:av,fr=⟨key,0,hash⟩:=⟨_,rfl⟩;rw[←hfr,←hn];obtain⟨W,hW,hB,hL,hR,hF,hO⟩:=qX4 w 163 #[.pointer (some ⟨P.mb,P.mo,none⟩),.int .i64 c.p,.int .i64 c.v,.int .i64 c.u] 159 #[.int .u64 0,.int .u64 0,.int .u64 0] 159 #[.int .u64 (key:Int),.int .u64 0,.int .u64 (hash:Int)] 159 #[.int .u64 0,.int .u64 0,.int .u64 0];have hml:=hM.lt;have htl:=h.aR;have hgl:=h.aS;have hB0:=hE.size;have HW:=qd hW
 have hnm:n≤64:=by rw[hn];exact hok
 obtain⟨rR,Yf,Yg⟩:=(h.below hB).cells;rw[←hn]at rR;unfold bP aG eO aO;have HT:=qd (h.below hB);have ay:=qd (hE.next hB);have HM:=qd (show aM W P (x.add c 0)from hM.below hB);have HL:=qd (hL);have HR:=qd (hR);have HF:=qd (hF);have HO:=qd (show aj W _ _ (vN (dL fr none (aL (T.gs.take 0))))from hO);have ah:=qd (Mod.of_below hB [P.mb]);have z1:=ah.out.size;obtain⟨lb,hlb⟩:∃lb,lb=w.heap.size:=⟨_,rfl⟩;obtain⟨rb,hrb⟩:∃rb,rb=w.heap.size+1:=⟨_,rfl⟩;obtain⟨fb,l9⟩:∃fb,fb=w.heap.size+1+1:=⟨_,rfl⟩;obtain⟨ob,mY⟩:∃ob,ob=w.heap.size+1+1+1:=⟨_,rfl⟩;clear hW hB h hM hL hE hR hF hO;go_in;go_upto_region 3 with fail;rw[←HW.out,←mY,←l9,←hrb,←hlb];rw[←hlb]at HL;rw[←hrb]at HR;rw[←l9]at HF;rw[←mY]at HO
 have n1:lb<rb:=by omega
 have n2:rb<fb:=by omega
 have n3:fb<ob:=by omega
 have n4:P.mb<lb:=by omega
 have n5:tb<lb:=by omega
 have n6:gb<lb:=by omega
 have n7:W0.heap.size≤lb:=by omega
 have n8:w.heap.size≤lb:=by omega
 clear hlb hrb l9 mY HW;have HN:=qd hn;have HFR:=qd hfr;have HFC:=qd (show(#[.int .u64 (key:Int),.int .u64 0,.int .u64 (hash:Int)]:Array Value)= #[.int .u64 ((fr).key:Int),.int .u64 ((fr).val:Int),.int .u64 ((fr).hash:Int)]from by rw[hfr];rfl);clear hfr hn;go_wp2;clear rR Yf Yg;go_loopw [12,13,15,24] (fun v12 _ _ i wr=>∃k:Nat,k≤n∧i= .int .i64 k∧v12= .bool (dL fr none (aL (T.gs.take k))).isSome∧aM wr P (x.add c k)∧aj wr ob 159 (vN (dL fr none (aL (T.gs.take k))))∧TabAt wr tb gb T∧Env W0 E wr∧aj wr lb 163 #[.pointer (some ⟨P.mb,P.mo,none⟩),.int .i64 c.p,.int .i64 c.v,.int .i64 c.u]∧aj wr rb 159 #[.int .u64 0,.int .u64 0,.int .u64 0]∧aj wr fb 159 #[.int .u64 ((fr).key:Int),.int .u64 ((fr).val:Int),.int .u64 ((fr).hash:Int)]∧Mod [P.mb] w wr) (fun _ _ _ i _=>n-(intOf i).toNat)
 case atStart=>exact⟨0,by omega,rfl,rfl,HM.out,HO.out,HT.out,ay.out,HL.out,HR.out,HFC.out▸HF.out,ah.out⟩
 case round=>
  clear HM HO HT ay HL HR HF ah;obtain⟨k,hk,rfl,rfl,hM,hO,hT,hE,hL,hR,hF,hm⟩:=hrel;by_cases hlt:k<n
  ·have hlt':(k:Int)<(n:Int):=by omega
   have hk0:(0:Int)≤(k:Int):=by omega
   have FB:k<T.gs.length:=by rw[←HN.out];exact hlt
   have HT:=qd (hT);have HM:=qd (hM);have ay:=qd (hE);have HO:=qd (hO);have HL:=qd (hL);have HR:=qd (hR);have HF:=qd (hF);have ah:=qd (hm);clear hT hM hE hO hL hR hF hm;obtain⟨o,ho⟩:∃o,o=dL fr none (aL (T.gs.take k)):=⟨_,rfl⟩;rw[←ho]at HO⊢;have HOo:=qd ho;clear ho;obtain⟨G,hG⟩:∃G,G=T.gs.getD k []:=⟨_,rfl⟩;have OP:=qd hG;clear hG;have rR:=HT.out.cells.1;rw[←HN.out]at rR;have lc:=HL.out.c4;go_upto_region 7 with fail;have z1:=qJ ah.out.size (qJ HT.out.aR (qJ HT.out.aS (qJ HM.out.lt (qJ HO.out.lt (qJ HL.out.lt (qJ HR.out.lt HF.out.lt))))));have rQ:=qd (uO ⟨gb,k*25,none⟩ P.mb P.mt P.pre P.post P.mo (x.add c k).all (x.add c k).last P.m c wr.drew (HM.out.below (Below.refl _ _).drew));unfold aG at rQ;refine rT (fun(w':World)=>w'.cell? ⟨tb,0,none⟩=some (.slice (some ⟨gb,0,none⟩) n n)∧w'.cell? ⟨lb,0,none⟩=some (.pointer (some ⟨P.mb,P.mo,none⟩))∧w'.cell? ⟨lb,1,none⟩=some (.int .i64 c.p)∧w'.cell? ⟨lb,2,none⟩=some (.int .i64 c.v)∧w'.cell? ⟨lb,3,none⟩=some (.int .i64 c.u)) [] ?_;have hHeld:=(⟨rR,lc.1,lc.2.1,lc.2.2.1,lc.2.2.2⟩:_∧_∧_∧_∧_);refine vW 0 rfl ?_;refine vW 1 rfl ?_;refine vW 2 rfl ?_;refine vT 3 rfl ?_;refine vW 4 rfl ?_;refine vW 5 rfl ?_;refine vT 6 rfl ?_;refine vW 10 rfl ?_;refine nT 7 rfl fun K hK=> ?_;go_simp;refine(rQ.out).mono ?_;rintro y w1 ⟨rfl,hM1,hm⟩;replace hm:Mod [P.mb] wr w1:=(Mod.drewN [P.mb] wr 1).then hm;clear rQ HM rR lc;replace HT:=qM hm HT;replace ay:=qM hm ay;replace HO:=qM hm HO;replace HL:=qM hm HL;replace HR:=qM hm HR;replace HF:=qM hm HF;have z9:=(hm).size
   replace ah:=qU ah hm;have HM:=qd (show aM w1 P (x.add c (k+1))from hM1);clear hM1 hm;unfold bq;have rR:=HT.out.cells.1;rw[←HN.out]at rR;have lc:=HL.out.c4;have bM:=qd (Dr gb 223 _ _ (k*25) _ w1 (HT.out.group k FB) ay.out.tz);rw[←OP.out]at bM;unfold bq at bM;go_simp;have hHeld:=(⟨rR,lc.1,lc.2.1,lc.2.2.1,lc.2.2.2⟩:_∧_∧_∧_∧_);refine kO hK ?_;clear hK K;refine nT 8 rfl fun K hK=> ?_;go_simp;refine(bM.out).mono ?_;rintro y w2 ⟨A,cc,rfl,vO,hb⟩;clear rR lc;replace HT:=qB hb HT;replace ay:=qB hb ay;replace HO:=qB hb HO;replace HL:=qB hb HL;replace HR:=qB hb HR;replace HF:=qB hb HF;replace HM:=qB hb HM;have z10:=(hb).size;replace ah:=qT ah hb;have fV:=qd (vO);clear vO hb bM;have rR:=HT.out.cells.1;rw[←HN.out]at rR;have lc:=HL.out.c4;go_simp;have hHeld:=(⟨rR,lc.1,lc.2.1,lc.2.2.1,lc.2.2.2⟩:_∧_∧_∧_∧_);refine kO hK ?_;clear hK K;refine vW 9 rfl ?_;refine aQ (by kernel_rfl) ?_ _;obtain⟨es,hes⟩:∃es,es=bO G:=⟨_,rfl⟩;rw[←hes]at fV⊢
   have acM:es.length≤8:=by have h1:=wQ G;have h2:=HT.out.wide.at_ FB;rw[←OP.out]at h2;rw[hes];omega
   have Yi:=qd hes;clear hes;have z11:=ah.out.size;go_wp2;clear rR lc;go_loopw [12,15,37] (fun v12 _ i wr=>∃j:Nat,j≤es.length∧i= .int .i64 j∧v12= .bool (dL fr o (es.take j)).isSome∧aj wr ob 159 (vN (dL fr o (es.take j)))∧TabAt wr tb gb T∧Env W0 E wr∧aj wr lb 163 #[.pointer (some ⟨P.mb,P.mo,none⟩),.int .i64 c.p,.int .i64 c.v,.int .i64 c.u]∧aj wr rb 159 #[.int .u64 0,.int .u64 0,.int .u64 0]∧aj wr fb 159 #[.int .u64 ((fr).key:Int),.int .u64 ((fr).val:Int),.int .u64 ((fr).hash:Int)]∧Mod [P.mb] w wr∧aM wr P (x.add c (k+1))∧wr.ownsRow w1.heap.size 159 3 (.slice A es.length cc) es.length (es.flatMap aT)) (fun _ _ i _=>es.length-(intOf i).toNat)
   case atStart=>exact⟨0,by omega,rfl,rfl,HO.out,HT.out,ay.out,HL.out,HR.out,HF.out,ah.out,HM.out,fV.out⟩
   case round=>
    clear HM HO HT ay HL HR HF ah fV;obtain⟨j,hj,rfl,rfl,hO,hT,hE,hL,hR,hF,hm,hM,vO⟩:=hrel;by_cases hlt2:j<es.length
    ·have ab7:(j:Int)<(es.length:Int):=by omega
     have hj0:(0:Int)≤(j:Int):=by omega
     obtain⟨e,he⟩:∃e,es[j]?=some e:=⟨_,List.getElem?_eq_getElem hlt2⟩;obtain⟨g,rfl,hgb,k0,k1,k2,hjn⟩:=IV vO he;have dU:=qd (NP fr o he);clear he hjn;have HT:=qd (hT);have HM:=qd (hM);have ay:=qd (hE);have HO:=qd (hO);have HL:=qd (hL);have HR:=qd (hR);have HF:=qd (hF);have fV:=qd (vO);have ah:=qd (hm);clear hT hM hE hO hL hR hF hm vO;obtain⟨o2,ho2⟩:∃o2,o2=dL fr o (es.take j):=⟨_,rfl⟩;rw[←ho2]at HO dU⊢;clear ho2;go_upto_region 10 with fail;have z1:=qJ ah.out.size (qJ HT.out.aR (qJ HT.out.aS (qJ HM.out.lt (qJ HO.out.lt (qJ HL.out.lt (qJ HR.out.lt (qJ HF.out.lt ah.out.size)))))));refine dB 159 #[.int .u64 ((e).key:Int),.int .u64 ((e).val:Int),.int .u64 ((e).hash:Int)] ?_;rintro w3 ⟨hnew,hb⟩;obtain⟨xb,hxb⟩:∃xb,xb=wr.heap.size:=⟨_,rfl⟩;rw[←hxb]at hnew⊢
     replace hxb:wr.heap.size≤xb:=by omega
     clear k0 k1 k2;replace HT:=qB hb HT;replace HM:=qB hb HM;replace ay:=qB hb ay;replace HO:=qB hb HO;replace HL:=qB hb HL;replace HR:=qB hb HR;replace HF:=qB hb HF;replace fV:=qB hb fV;have z10:=(hb).size;replace ah:=qT ah hb;have HX:=qd (hnew);clear hnew hb
     cases hl:bB e fr with
     |true=>
      have fD:=qd (jD e fr w3);rw[hl]at fD;unfold aO at fD;replace dU:=qd (show dL fr o (es.take (j+1))=o2 from by rw[dU.out];unfold mg;rw[hl];simp);clear hl;have xc:=HX.out.c3;have fc:=HF.out.c3;go_wp2_with fail;refine(fD.out).mono ?_;rintro x w4 ⟨rfl,hb⟩;clear xc fc;replace HT:=qB hb HT;replace HM:=qB hb HM;replace ay:=qB hb ay;replace HO:=qB hb HO;replace HL:=qB hb HL;replace HR:=qB hb HR;replace HF:=qB hb HF;replace fV:=qB hb fV;replace HX:=qB hb HX;have Wi:=(hb).size;replace ah:=qT ah hb;clear hb;go_wp2;go_roundw
      case rel=>exact⟨j+1,by omega,by go_num,by rw[dU.out]<;>rfl,by rw[dU.out];exact HO.out,HT.out,ay.out,HL.out,HR.out,HF.out,ah.out,HM.out,fV.out⟩
      case measure=>simp[intOf];omega
     |false=>
      cases o2 with
      |none=>
       replace HO:=qd (show aj w3 ob 159 #[.int .u64 0,.int .u64 0,.int .u64 0]from HO.out);have fD:=qd (jD e fr w3);rw[hl]at fD;unfold aO at fD;replace dU:=qd (show dL fr o (es.take (j+1))=some e from by rw[dU.out];unfold mg;rw[hl];rfl);clear hl;have xc:=HX.out.c3;have fc:=HF.out.c3;go_wp2_with fail;refine(fD.out).mono ?_;rintro x w4 ⟨rfl,hb⟩;clear xc fc;replace HT:=qB hb HT;replace HM:=qB hb HM;replace ay:=qB hb ay;replace HO:=qB hb HO;replace HL:=qB hb HL;replace HR:=qB hb HR;replace HF:=qB hb HF;replace fV:=qB hb fV;replace HX:=qB hb HX;have Wi:=(hb).size;replace ah:=qT ah hb;clear hb;have xc:=HX.out.c3;have oc:=HO.out.c3;have of:=HO.out.f3;go_upto_region 12 with fail;have aeg:=qJ HT.out.aR (qJ HT.out.aS (qJ HM.out.lt (qJ HO.out.lt (qJ HL.out.lt (qJ HR.out.lt (qJ HF.out.lt HX.out.lt))))));refine Ij HO.out ?_;rintro w6 ⟨hnew,hm⟩;simp only[pt]at hnew;replace HT:=qM hm HT;replace HM:=qM hm HM;replace ay:=qM hm ay;replace HL:=qM hm HL;replace HR:=qM hm HR;replace HF:=qM hm HF;replace fV:=qM hm fV;replace HX:=qM hm HX;have aeh:=(hm).size;replace ah:=qU ah hm;replace HO:=qd hnew;clear hnew hm;go_wp2;go_roundw
       case rel=>exact⟨j+1,by omega,by go_num,by rw[dU.out]<;>rfl,by rw[dU.out];exact HO.out,HT.out,ay.out,HL.out,HR.out,HF.out,ah.out,HM.out,fV.out⟩
       case measure=>simp[intOf];omega
      |some b=>
       cases hlb:bB e b with
       |true=>
        replace HO:=qd (show aj w3 ob 159 #[.int .u64 ((b).key:Int),.int .u64 ((b).val:Int),.int .u64 ((b).hash:Int)]from HO.out);have fD:=qd (jD e fr w3);rw[hl]at fD;unfold aO at fD;replace dU:=qd (show dL fr o (es.take (j+1))=some e from by rw[dU.out];unfold mg;rw[hl];simp[hlb]);have vP:=qd (fun V:World=>jD e b V);rw[hlb]at vP;unfold aO at vP;clear hlb hl;have xc:=HX.out.c3;have fc:=HF.out.c3;go_wp2_with fail;refine(fD.out).mono ?_;rintro x w4 ⟨rfl,hb⟩;clear xc fc;replace HT:=qB hb HT;replace HM:=qB hb HM;replace ay:=qB hb ay;replace HO:=qB hb HO;replace HL:=qB hb HL;replace HR:=qB hb HR;replace HF:=qB hb HF;replace fV:=qB hb fV;replace HX:=qB hb HX;have Wi:=(hb).size;replace ah:=qT ah hb;clear hb;have xc:=HX.out.c3;have oc:=HO.out.c3;go_wp2_with fail;refine((vP.out w4)).mono ?_;rintro x w5 ⟨rfl,hb⟩;clear xc oc;replace HT:=qB hb HT;replace HM:=qB hb HM;replace ay:=qB hb ay;replace HO:=qB hb HO;replace HL:=qB hb HL;replace HR:=qB hb HR;replace HF:=qB hb HF;replace fV:=qB hb fV;replace HX:=qB hb HX;have acN:=(hb).size;replace ah:=qT ah hb;clear hb;have xc:=HX.out.c3;have oc:=HO.out.c3;have of:=HO.out.f3;go_upto_region 12 with fail;have aei:=qJ HT.out.aR (qJ HT.out.aS (qJ HM.out.lt (qJ HO.out.lt (qJ HL.out.lt (qJ HR.out.lt (qJ HF.out.lt HX.out.lt))))));refine Ij HO.out ?_;rintro w6 ⟨hnew,hm⟩;simp only[pt]at hnew;replace HT:=qM hm HT;replace HM:=qM hm HM;replace ay:=qM hm ay;replace HL:=qM hm HL;replace HR:=qM hm HR;replace HF:=qM hm HF;replace fV:=qM hm fV
        replace HX:=qM hm HX;have aej:=(hm).size;replace ah:=qU ah hm;replace HO:=qd hnew;clear hnew hm;go_wp2;go_roundw
        case rel=>exact⟨j+1,by omega,by go_num,by rw[dU.out]<;>rfl,by rw[dU.out];exact HO.out,HT.out,ay.out,HL.out,HR.out,HF.out,ah.out,HM.out,fV.out⟩
        case measure=>simp[intOf];omega
       |false=>
        replace HO:=qd (show aj w3 ob 159 #[.int .u64 ((b).key:Int),.int .u64 ((b).val:Int),.int .u64 ((b).hash:Int)]from HO.out);have fD:=qd (jD e fr w3);rw[hl]at fD;unfold aO at fD;replace dU:=qd (show dL fr o (es.take (j+1))=some b from by rw[dU.out];unfold mg;rw[hl];simp[hlb]);have vP:=qd (fun V:World=>jD e b V);rw[hlb]at vP;unfold aO at vP;clear hlb hl;have xc:=HX.out.c3;have fc:=HF.out.c3;go_wp2_with fail;refine(fD.out).mono ?_;rintro x w4 ⟨rfl,hb⟩;clear xc fc;replace HT:=qB hb HT;replace HM:=qB hb HM;replace ay:=qB hb ay;replace HO:=qB hb HO;replace HL:=qB hb HL;replace HR:=qB hb HR;replace HF:=qB hb HF;replace fV:=qB hb fV;replace HX:=qB hb HX;have Wi:=(hb).size;replace ah:=qT ah hb;clear hb;have xc:=HX.out.c3;have oc:=HO.out.c3;go_wp2_with fail;refine((vP.out w4)).mono ?_;rintro x w5 ⟨rfl,hb⟩;clear xc oc;replace HT:=qB hb HT;replace HM:=qB hb HM;replace ay:=qB hb ay;replace HO:=qB hb HO;replace HL:=qB hb HL;replace HR:=qB hb HR;replace HF:=qB hb HF;replace fV:=qB hb fV;replace HX:=qB hb HX;have acN:=(hb).size;replace ah:=qT ah hb;clear hb;go_wp2;go_roundw
        case rel=>exact⟨j+1,by omega,by go_num,by rw[dU.out]<;>rfl,by rw[dU.out];exact HO.out,HT.out,ay.out,HL.out,HR.out,HF.out,ah.out,HM.out,fV.out⟩
        case measure=>simp[intOf];omega
    ·obtain rfl:j=es.length:=by omega
     have ab7:¬(es.length:Int)<(es.length:Int):=by omega
     have jK:=qd (show dL fr none (aL (T.gs.take (k+1)))=dL fr o es from by rw[Le fr T.gs FB,HOo.out,Yi.out,OP.out]);rw[List.take_length,←jK.out]at hO⊢;have Lf:=qd (And.intro hM (And.intro hO (And.intro hT (And.intro hE (And.intro hL (And.intro hR (And.intro hF hm)))))));clear hM hO hT hE hL hR hF hm vO;go_wp2;go_roundw
     case rel=>exact⟨k+1,by omega,by go_num,rfl,Lf.out⟩
     case measure=>simp[intOf];omega
  ·obtain rfl:k=n:=by omega
   have hlt':¬(k:Int)<(k:Int):=by omega
   have htk:T.gs.take k=T.gs:=by rw[HN.out];exact List.take_length
   rw[htk]at hO⊢;clear htk;obtain⟨b,hbe⟩:∃b,b=(dL fr none (aL T.gs)).getD ⟨0,0,0⟩:=⟨_,rfl⟩;obtain⟨sb,hsb⟩:∃sb,sb=(dL fr none (aL T.gs)).isSome:=⟨_,rfl⟩;have HM:=qd (hM);have HO:=qd (show aj wr ob _ #[.int .u64 ((b).key:Int),.int .u64 ((b).val:Int),.int .u64 ((b).hash:Int)]from by rw[hbe];exact hO);have HR:=qd (hR);have ah:=qd (hm);have uL:=qd hbe;clear hM hO hT hE hL hR hF hm hbe hsb;have oc:=HO.out.c3;have rc:=HR.out.c3;have rf:=HR.out.f3;go_wp2;have q1:=qJ HM.out.lt (qJ HO.out.lt HR.out.lt);refine Ij HR.out ?_;rintro w9 ⟨hnew,hm⟩;simp only[pt]at hnew;replace HM:=qM hm HM;replace HO:=qM hm HO;have z4:=(hm).size;replace ah:=qU ah hm;replace HR:=qd hnew;clear hnew hm;have rx:=HR.out.c3;refine bodyPost_ret (v:= .tuple #[.agg #[.int .u64 ((b).key:Int),.int .u64 ((b).val:Int),.int .u64 ((b).hash:Int)],.bool (dL fr none (aL T.gs)).isSome]) (by simp[results,Tryz.results198,go_sem,rx.1,rx.2.1,rx.2.2]) rfl ⟨by rw[uL.out],HM.out,ah.out⟩
end
section
def cU (n:Int):aZ:=⟨0,0,n⟩
def cV:aZ:=⟨0,1,0⟩
def cP:aZ:=⟨1,0,0⟩
def nu (b:Nat):Value:=pQ b
structure eZ (w:World)(bb tb gb n k:Nat):Prop where
 blk:aj w bb 331 #[pQ tb,nI n,nI k]
 tab:TabAt w tb gb (dN n k)
 le:k≤n
 pow:Pw n
 ne1:bb≠tb
 SF:bb≠gb
section
variable {w w' : World} {bb tb gb n k : Nat}
theorem eZ.lt (h:eZ w bb tb gb n k):bb<w.heap.size:=h.blk.lt
theorem eZ.aR (h:eZ w bb tb gb n k):tb<w.heap.size:=h.tab.aR
theorem eZ.aS (h:eZ w bb tb gb n k):gb<w.heap.size:=h.tab.aS
theorem eZ.mod {S:List Nat}(h:eZ w bb tb gb n k)(hm:Mod S w w')(h1:bb∉S)(h2:tb∉S)(h3:gb∉S):eZ w' bb tb gb n k:=⟨h.blk.mod hm h1,h.tab.mod hm h2 h3,h.le,h.pow,h.ne1,h.SF⟩
instance {w w':World}{bb tb gb n k:Nat}:Md (eZ w bb tb gb n k) w w' (eZ w' bb tb gb n k) (fun S=>bb∉S∧tb∉S∧gb∉S):=⟨fun h hm hs=>h.mod hm hs.1 hs.2.1 hs.2.2⟩
theorem eZ.cells (h:eZ w bb tb gb n k):w.cell? ⟨bb,0,none⟩=some (pQ tb)∧w.cell? ⟨bb,1,none⟩=some (nI n)∧w.cell? ⟨bb,2,none⟩=some (nI k):=
 ⟨h.blk.cell 0,h.blk.cell 1,h.blk.cell 2⟩
end
theorem SG (n:Nat)(hn:Pw n)(w:World):
  Calls Tryz.prog 208 #[nI n] w fun e w'=>∃bb tb gb,w.heap.size≤bb∧w.heap.size≤tb∧w.heap.size≤gb∧e= .returned (.tuple #[nu bb,.nilIface])∧eZ w' bb tb gb n 0∧Below w.heap.size w w':=by
 have HR:=qd (IQ n hn w);unfold bP at HR;unfold nu;go_in;go_wp2_with fail;refine(HR.out).mono ?_;rintro x w1 ⟨rfl,hT1,hb1⟩;go_wp2;refine bodyPost_ret (v:= .tuple #[pQ w1.heap.size,.nilIface]) (by simp[results,Tryz.results208,go_sem]) rfl ⟨w1.heap.size,w.heap.size+1,w.heap.size,hb1.size,by omega,by omega,rfl,⟨aj.new w1 _ _,hT1.below ((Below.refl _ _).alloc (Nat.le_refl _) _),Nat.zero_le _,hn, ?_, ?_⟩,hb1.alloc (by have:=hT1.aR;omega) _⟩
 ·have:=hT1.aR;omega
 ·have:=hT1.aS;omega
theorem qV (bb n k:Nat)(p:Value)(w:World)(hk:k≤n)(hn:n≤64)(h:aj w bb 331 #[p,nI n,nI k]):
  Calls Tryz.prog 254 #[nu bb] w fun e w'=>e= .returned (.int .i64 ((n-k:Nat):Int))∧w.drew=w':=by
 have c1:=h.cell 1;have c2:=h.cell 2;simp only[gl]at c1 c2;clear h;unfold nu;go_in;go_upto_region 1 with fail;go_region;go_wp2;go_ret;exact⟨gK (by omega),rfl⟩
theorem Qv {W0:World}{E:Nat→Addr}(bb tb gb n k:Nat)(P:MP)(x:bI)(hk:k<n)(w:World)(h:eZ w bb tb gb n k)(hM:aM w P x)(hE:Env W0 E w)(hmb:P.mb≠bb)(hmt:P.mb≠tb)(fZ:P.mb≠gb)(hb0:W0.heap.size≤P.mb)(hb1:W0.heap.size≤bb)(hb2:W0.heap.size≤tb)(hb3:W0.heap.size≤gb):
  Calls Tryz.prog 286 #[nu bb,.pointer (some ⟨P.mb,P.mo,none⟩)] w fun e w'=>e= .returned (.bool true)∧eZ w' bb tb gb n (k+1)∧aM w' P ((x.add cV 1).add (cU 1) 1)∧Mod [P.mb,bb,tb,gb] w w':=by
 have hml:=hM.lt;have hB0:=hE.size;have hne1:=h.ne1;have hne2:=h.SF;have hle:=h.pow.le
 have hk0:¬((n-k:Nat):Int)=0:=by omega
 have hk1:¬n≤k:=by omega
 have hk2:¬n-k=0:=by omega
 have HB:=qd (h.blk);have HT:=qd (h.tab);have ay:=qd (hE);have HM:=qd (hM);have ah:=qd (Mod.refl [P.mb,bb,tb,gb] w);have HP:=qd h.pow;clear h hM hE;unfold nu;have q1:=qJ HB.out.lt (qJ HT.out.aR (qJ HT.out.aS HM.out.lt));go_in;go_upto_region 1 with fail;have bc:=HB.out.c3;refine rT (fun(w':World)=>w'.cell? ⟨bb,0,none⟩=some (pQ tb)∧w'.cell? ⟨bb,1,none⟩=some (nI n)∧w'.cell? ⟨bb,2,none⟩=some (nI k)) [] ?_;have hHeld:=(⟨bc.1,bc.2.1,bc.2.2⟩:_∧_∧_);refine vW 0 rfl ?_;refine nT 1 rfl fun K hK=> ?_;go_simp;refine(qV bb n k _ _ (by omega) hle (HB.out.mod (Mod.drewN [] w 1) (by simp))).mono ?_;rintro y w1 ⟨rfl,hw1⟩;have hm:Mod [] w w1:=hw1▸Mod.drewN [] w 2;clear hw1 bc;replace HB:=qM hm HB;replace HT:=qM hm HT;replace ay:=qM hm ay;replace HM:=qM hm HM;have z5:=(hm).size;replace ah:=qU ah hm;clear hm;have bc:=HB.out.c3;go_wp2_with fail;have hHeld:=(⟨bc.1,bc.2.1,bc.2.2⟩:_∧_∧_);refine kO hK ?_;clear hK K;refine tW 2 (some 7) (.bool false) rfl hHeld ?_
 try simp only[pt]
 refine tW 3 (some 8) (.bool false) rfl hHeld ?_
 try simp only[pt]
 refine vW 4 rfl ?_;refine vW 5 rfl ?_;refine vW 6 rfl ?_;refine vT 7 rfl ?_;refine vW 8 rfl ?_;refine vW 10 rfl ?_;refine vW 11 rfl ?_;refine vW 12 rfl ?_;refine vT 13 rfl ?_;refine nT 9 rfl fun K hK=> ?_;go_simp;refine(uq (some ⟨P.mb,P.mo,none⟩) _).mono ?_;rintro y w2 ⟨rfl,hb⟩;unfold aG;clear bc;replace HB:=qB hb HB;replace HT:=qB hb HT;replace ay:=qB hb ay;replace HM:=qB hb HM;have z6:=(hb).size;replace ah:=qT ah hb;clear hb;have bc:=HB.out.c3;go_wp2_with fail;have hHeld:=(⟨bc.1,bc.2.1,bc.2.2⟩:_∧_∧_);refine kO hK ?_;clear hK K;refine nT 14 rfl fun K hK=> ?_;go_simp;have pX:=qd (JZ tb gb (dN n k) P.mb P.mt P.pre P.post P.mo x.all x.last P.m ⟨0,1,0⟩ k (by rw[show(dN n k).gs.length=n from nO (by omega)];exact hk) w2 HT.out HM.out hmt fZ);unfold bP aG at pX;refine(pX.out).mono ?_;rintro y w3 ⟨rfl,Aq,rO,hm⟩;clear pX HT HM bc;replace HB:=qM hm HB;replace ay:=qM hm ay;have z7:=(hm).size;replace ah:=qU ah hm;have HT:=qd (show TabAt w3 tb gb (dN n (k+1))from by unfold dN at Aq⊢;rw[←IU hk];exact Aq);have HM:=qd (show aM w3 P (x.add cV 1)from rO);clear rO Aq hm;have bc:=HB.out.c3;go_wp2_with fail;have hHeld:=(⟨bc.1,bc.2.1,bc.2.2⟩:_∧_∧_);refine kO hK ?_;clear hK K;refine tW 15 (some 20) (.bool false) rfl hHeld ?_
 try simp only[pt]
 refine tW 16 (some 21) (.bool false) rfl hHeld ?_
 try simp only[pt]
 refine aQ (by kernel_rfl) ?_ _;go_upto_region 3 with fail;have HU:=qd (qO P.mb P.mt P.pre P.post P.mo _ _ P.m 1 (by omega) w3 HM.out);clear HM;go_wp2_with fail;refine(HU.out).mono ?_;rintro x w4 ⟨rfl,Fy,hm⟩;clear bc;replace HB:=qM hm HB;replace ay:=qM hm ay;replace HT:=qM hm HT;have z8:=(hm).size;replace ah:=qU ah hm;clear hm;have HM:=qd (show aM w4 P ((x.add cV 1).add (cU 1) 1)from Fy);clear Fy HU;have bc:=HB.out.c3;have bf:=HB.out.f3;go_upto_region 5 with fail;have q9:=qJ HB.out.lt (qJ HT.out.aR (qJ HT.out.aS HM.out.lt));refine EY HB.out ?_;rintro w5 ⟨hnew,hm⟩;simp only[pt]at hnew;clear bc bf;replace ay:=qM hm ay;replace HT:=qM hm HT;replace HM:=qM hm HM;have z13:=(hm).size;replace ah:=qU ah hm;replace HB:=qd hnew;clear hnew hm;go_wp2;go_ret;exact⟨rfl,⟨HB.out,HT.out,by omega,HP.out,hne1,hne2⟩,HM.out,ah.out⟩
theorem J2 (bb tb gb n:Nat)(p:Value)(w:World)(h:eZ w bb tb gb n n):
  Calls Tryz.prog 286 #[nu bb,p] w fun e w'=>e= .returned (.bool false)∧Below w.heap.size w w':=by
 have hle:=h.pow.le;unfold nu;have HL:=qd (qV bb n n _ w.drew (Nat.le_refl n) hle h.blk.drew);rw[Nat.sub_self]at HL;unfold nu at HL;go_in;go_upto_region 1 with fail;refine rT (fun(w':World)=>True) [] ?_;have hHeld:=trivial;refine vW 0 rfl ?_;refine nT 1 rfl fun K hK=> ?_;go_simp;refine(HL.out).mono ?_;rintro y w1 ⟨rfl,rfl⟩;go_wp2_with fail;refine kO hK ?_;clear hK K;refine tW 2 (some 7) (.bool true) rfl hHeld ?_
 try simp only[pt]
 refine tW 3 (some 8) (.bool true) rfl hHeld ?_
 try simp only[pt]
 refine vU 4 rfl ?_;refine vU 5 rfl ?_;refine vU 6 rfl ?_;refine vU 7 rfl ?_;refine vU 8 rfl ?_;refine vU 9 rfl ?_;refine vU 10 rfl ?_;refine vU 11 rfl ?_;refine vU 12 rfl ?_;refine vU 13 rfl ?_;refine vU 14 rfl ?_;refine vU 15 rfl ?_;refine tW 16 (some 21) (.bool true) rfl hHeld ?_
 try simp only[pt]
 refine aQ (by kernel_rfl) ?_ _;go_wp2;go_ret;exact⟨rfl,(Below.refl _ _).drew.drew⟩
theorem Qw (bb tb gb n:Nat)(w:World)(h:eZ w bb tb gb n n):
  Calls Tryz.prog 294 #[nu bb] w fun e w'=>e= .returned (.tuple #[bP tb,.nilIface])∧aj w' bb 331 #[.pointer none,nI n,nI n]∧TabAt w' tb gb (dN n n)∧Mod [bb] w w':=by
 have hle:=h.pow.le;have HL:=qd (qV bb n n _ w (Nat.le_refl n) hle h.blk);rw[Nat.sub_self]at HL;have hne1:=h.ne1;have hne2:=h.SF;have HB:=qd (h.blk);have HT:=qd (h.tab);have ah:=qd (Mod.refl [bb] w);clear h;unfold nu bP;unfold nu at HL;go_in;go_upto_region 1 with fail;go_wp2_with fail;refine(HL.out).mono ?_;rintro x w1 ⟨rfl,hw1⟩;have hm:Mod [] w w1:=hw1▸Mod.drewN [] w 1;clear hw1 HL;replace HB:=qM hm HB;replace HT:=qM hm HT;have z1:=(hm).size;replace ah:=qU ah hm;clear hm;have bc:=HB.out.c3;have bf:=HB.out.f3;go_upto_region 5 with fail;have q2:=qJ HB.out.lt (qJ HT.out.aR HT.out.aS);refine EY HB.out ?_;rintro w2 ⟨hnew,hm⟩;simp only[pt]at hnew;clear bc bf;replace HT:=qM hm HT;have z5:=(hm).size;replace ah:=qU ah hm;replace HB:=qd hnew;clear hnew hm;go_wp2;refine bodyPost_ret (v:= .tuple #[pQ tb,.nilIface]) (by simp[results,Tryz.results294,go_sem]) rfl ⟨rfl,HB.out,HT.out,ah.out⟩
end
section
attribute [local go_sem] Option.isNone_some Option.isNone_none
theorem jc (w:World):Calls Tryz.prog 132 #[.nilIface] w fun e w'=>e= .returned undef∧w=w':=by
 go_in;go_wp2;go_end0;exact⟨rfl,rfl⟩
theorem Bw (w:World):Calls Tryz.prog 101 #[.bool true] w fun e w'=>e= .returned undef∧w=w':=by
 go_in;go_wp2;go_end0;exact⟨rfl,rfl⟩
theorem sF (a:Int)(w:World):Calls Tryz.prog 156 #[.int .i64 a,.nilIface] w fun e w'=>e= .returned (.int .i64 a)∧w=w':=by
 have HR:=qd (jc w);go_in;go_wp2_with fail;refine(HR.out).mono ?_;rintro x w1 ⟨rfl,rfl⟩;go_wp2;go_ret;exact⟨rfl,rfl⟩
theorem Wj (a:Int)(w:World):Calls Tryz.prog 148 #[.int .u64 a,.nilIface] w fun e w'=>e= .returned (.int .u64 a)∧w=w':=by
 have HR:=qd (jc w);go_in;go_wp2_with fail;refine(HR.out).mono ?_;rintro x w1 ⟨rfl,rfl⟩;go_wp2;go_ret;exact⟨rfl,rfl⟩
theorem Wl (p:Option Addr)(w:World):Calls Tryz.prog 135 #[.pointer p,.nilIface] w fun e w'=>e= .returned (.pointer p)∧w=w':=by
 have HR:=qd (jc w);go_in;go_wp2_with fail;refine(HR.out).mono ?_;rintro x w1 ⟨rfl,rfl⟩;go_wp2;go_ret;exact⟨rfl,rfl⟩
theorem Wm (p:Option Addr)(w:World):Calls Tryz.prog 181 #[.pointer p,.nilIface] w fun e w'=>e= .returned (.pointer p)∧w=w':=by
 have HR:=qd (jc w);go_in;go_wp2_with fail;refine(HR.out).mono ?_;rintro x w1 ⟨rfl,rfl⟩;go_wp2;go_ret;exact⟨rfl,rfl⟩
theorem IW (p:Option Addr)(w:World):Calls Tryz.prog 183 #[.pointer p,.nilIface] w fun e w'=>e= .returned (.pointer p)∧w=w':=by
 have HR:=qd (jc w);go_in;go_wp2_with fail;refine(HR.out).mono ?_;rintro x w1 ⟨rfl,rfl⟩;go_wp2;go_ret;exact⟨rfl,rfl⟩
theorem SH (p:Option Addr)(n c:Nat)(w:World):Calls Tryz.prog 288 #[.slice p n c,.nilIface] w fun e w'=>e= .returned (.slice p n c)∧w=w':=by
 have HR:=qd (jc w);go_in;go_wp2_with fail;refine(HR.out).mono ?_;rintro x w1 ⟨rfl,rfl⟩;go_wp2;go_ret;exact⟨rfl,rfl⟩
theorem Wn (p:Option Addr)(w:World):Calls Tryz.prog 293 #[.pointer p,.nilIface] w fun e w'=>e= .returned (.pointer p)∧w=w':=by
 have HR:=qd (jc w);go_in;go_wp2_with fail;refine(HR.out).mono ?_;rintro x w1 ⟨rfl,rfl⟩;go_wp2;go_ret;exact⟨rfl,rfl⟩
theorem SI (p:Option Addr)(w:World):Calls Tryz.prog 295 #[.pointer p,.nilIface] w fun e w'=>e= .returned (.pointer p)∧w=w':=by
 have HR:=qd (jc w);go_in;go_wp2_with fail;refine(HR.out).mono ?_;rintro x w1 ⟨rfl,rfl⟩;go_wp2;go_ret;exact⟨rfl,rfl⟩
structure eU (w:World)(rb:Nat)(ts:List Nat):Prop where
 lt:rb<w.heap.size
 at_:∀j t,ts[j]?=some t→w.cell? ⟨rb,j,none⟩=some (pQ t)
theorem eU.mod {S:List Nat}{w w':World}{rb:Nat}{ts:List Nat}(h:eU w rb ts)(hm:Mod S w w')(hs:rb∉S):eU w' rb ts:=
 ⟨Nat.lt_of_lt_of_le h.lt hm.size,fun j t ht=>(hm.cell_ (p:=⟨rb,j,none⟩) h.lt hs).trans (h.at_ j t ht)⟩
instance {w w':World}{rb:Nat}{ts:List Nat}:Md (eU w rb ts) w w' (eU w' rb ts) (fun S=>rb∉S):=⟨fun h hm hs=>h.mod hm hs⟩
def ptrs (ts:List Nat):List Value:=ts.map fun t=>pQ t
theorem eU.lK {w:World}{base n c:Nat}{e:TypeId}{A:Option Addr}{ts:List Nat}(h:w.ownsRow base e 1 (.slice A n c) n (ptrs ts))(hn:0<n):∃rb,A=some ⟨rb,0,none⟩∧base≤rb∧eU w rb ts∧ts.length=n:=by
 have hl:=h.1;rcases h.2 with hz|⟨g,cap,cur,hv,hb,hg,h1,h2,h3,h4⟩
 ·omega
 ·cases hv;refine⟨g,rfl,hb,⟨(Array.getElem?_eq_some_iff.1 hg).1,fun j t ht=> ?_⟩,by simpa[ptrs]using hl⟩;obtain⟨hj,_⟩:=List.getElem?_eq_some_iff.1 ht
  have hjn:j<n:=by simp[ptrs]at hl;omega
  have:=h.cellAt j (by omega);rw[this];unfold ptrs;rw[List.getElem?_map,ht];rfl
theorem SK (rb cap:Nat)(ts:List Nat)(hn:ts.length≤2)(w:World)(h:eU w rb ts):
  Calls Tryz.prog 300 #[.slice (some ⟨rb,0,none⟩) ts.length cap,.pointer none] w fun e w'=>e= .returned (.int .i64 (-1))∧w=w':=by
 go_in;go_wp2;go_loop [5,8] (fun _ i=>∃k:Nat,k≤ts.length∧i= .int .i64 k) (fun _ i=>ts.length-(intOf i).toNat)
 case atStart=>exact⟨0,by omega,rfl⟩
 case round=>
  obtain⟨k,hk,rfl⟩:=hrel;by_cases hlt:k<ts.length
  ·have hlt':(k:Int)<(ts.length:Int):=by omega
   have hk0:(0:Int)≤(k:Int):=by omega
   have hc:=h.at_ k ts[k] (List.getElem?_eq_getElem hlt);generalize ts[k]=tk at hc
   have hnn:(Go.binOp .eql 168 (.pointer none) (.pointer (some (⟨tk,0,none⟩:Addr)))).run Tryz.prog w= .ok (.bool false) w:=by first|rfl|kernel_rfl|simp[Go.binOp,go_sem]
   go_wp2;go_round
   case rel=>exact⟨k+1,by omega,by go_num⟩
   case measure=>simp[intOf];omega
  ·have hlt':¬(k:Int)<(ts.length:Int):=by omega
   go_wp2;go_ret;exact⟨rfl,rfl⟩
theorem contains_nil (rb cap:Nat)(ts:List Nat)(hn:ts.length≤2)(w:World)(h:eU w rb ts):
  Calls Tryz.prog 298 #[.slice (some ⟨rb,0,none⟩) ts.length cap,.pointer none] w fun e w'=>e= .returned (.bool false)∧w=w':=by
 have HI:=qd (SK rb cap ts hn w h);go_in;go_wp2_with fail;refine(HI.out).mono ?_;rintro x w1 ⟨rfl,rfl⟩;go_wp2;go_ret;exact⟨rfl,rfl⟩
end
end Go.Proofs.YtgkeameopnpinaaGreatDoor
