/- A table's Least by its contract. -/
import Derived.Test.YtkddpchpcepjgaaGreatDoorCoAB
namespace Go.Proofs.YtkddpchpcepjgaaGreatDoor
set_option maxRecDepth 100000
set_option maxHeartbeats 8000000
open Go.RowKit cu
theorem yr:type_of% @List.take_length:=@List.take_length
theorem J0:type_of% @List.take_add_one:=@List.take_add_one
theorem ka:type_of% @List.flatMap_append:=@List.flatMap_append
theorem KB:type_of% @List.foldl_append:=@List.foldl_append
section
variable {j k : Nat} {es : List ay} {e : ay}
theorem r9 {α:Type}{l:List α}{y:α}(h:l[k]?=some y):l.take (k+1)=l.take k++[y]:=by rw[J0,h];rfl
def oC (f:ay)(o:Option ay)(e:ay):Option ay:=if !bO e f && (match o with|none=>true|some b=>bO e b)then some e else o
def dX (f:ay)(o:Option ay)(es:List ay):Option ay:=es.foldl (oC f) o
theorem RD (f:ay)(o:Option ay)(h:es[j]?=some e):dX f o (es.take (j+1))=oC f (dX f o (es.take j)) e:=by
 unfold dX;rw[r9 h,KB];rfl
theorem OZ (f:ay)(gs:Tab)(hk:k<gs.length):dX f none (aM (gs.take (k+1)))=dX f (dX f none (aM (gs.take k))) (bX (gs.getD k [])):=by
 have h:gs[k]?=some (gs.getD k []):=by rw[zv,zg hk];rfl
 rw[r9 h];unfold dX aM;rw[ka,KB];simp
def yL (o:Option ay):Array Value:=(aU (o.getD ⟨0,0,0⟩)).toArray
theorem LQ {w:World}{base n c:Nat}{A:Option Addr}(h:w.ownsRow base 67 3 (.slice A n c) n (es.flatMap aU))(he:es[j]?=some e):
  ∃g,A=some ⟨g,0,none⟩/\base<=g/\w.cell? ⟨g,j*3,none⟩=some (.int .u64 (e.key:Int))/\w.cell? ⟨g,j*3+1,none⟩=some (.int .u64 (e.val:Int))/\w.cell? ⟨g,j*3+2,none⟩=some (.int .u64 (e.hash:Int))/\j<n:=by
 have hl:=h.1;rw[iA]at hl;obtain⟨hj,_⟩:=zz.1 he
 have hjn:j<n:=by omega
 rcases h.2 with hn|⟨g,cap,cur,hv,hb,hg,h1,h2,h3,h4⟩
 ·omega
 ·cases hv;refine⟨g,rfl,hb, ?_⟩
  have hs:es.flatMap aU=(es.take j).flatMap aU++(aU e++(es.drop (j+1)).flatMap aU):=by
   conv=>lhs;rw[<-JP j es,List.drop_eq_getElem?_toList_append,he]
   simp
  have hlt:((es.take j).flatMap aU).length=j*3:=by rw[iA,qn];omega
  have hc:∀q,q<3->w.cell? ⟨g,j*3+q,none⟩=(aU e)[q]?:=λq hq=>by
   have:=h.cellAt (j*3+q) (by omega);rw[this,hs,Z1 (by omega),hlt,Nat.add_sub_cancel_left,Z2 (by simpa[aU]using hq)]
  exact⟨hc 0 (by omega),hc 1 (by omega),hc 2 (by omega),hjn⟩
theorem Gd {W0:World}{E:Nat->Addr}(tb gb:Nat)(T:aC)(P:MP)(x:bS)(c:bE)(hash key:Nat)(hok:T.gs.length<=64)(w:World)(h:TabAt w tb gb T)(hM:aN w P x)(hE:Env W0 E w)(hmt:P.mb≠tb)(iC:P.mb≠gb)(hb0:W0.heap.size<=P.mb):
  Calls Tryz.prog 224 #[bT tb,aI (some ⟨P.mb,P.mo,none⟩) c,.int .u64 (hash:Int),.int .u64 (key:Int)] w λe w'=>e= .returned (fP (dX ⟨key,0,hash⟩ none (aM T.gs)))/\aN w' P (x.add c T.gs.length)/\Mod [P.mb] w w':=by
 obtain⟨n,hn⟩:∃n,n=T.gs.length:=⟨_,rfl⟩;obtain⟨fr,hfr⟩:∃fr:ay,fr=⟨key,0,hash⟩:=⟨_,rfl⟩;rw[<-hfr,<-hn];obtain⟨W,hW,hB,hL,hR,hF,hO⟩:=qX4 w 153 #[.pointer (some ⟨P.mb,P.mo,none⟩),.int .i64 c.p,.int .i64 c.v,.int .i64 c.u] 67 #[.int .u64 0,.int .u64 0,.int .u64 0] 67 #[.int .u64 (key:Int),.int .u64 0,.int .u64 (hash:Int)] 67 #[.int .u64 0,.int .u64 0,.int .u64 0];have hml:=hM.lt;have htl:=h.aS;have hgl:=h.aT;have hB0:=hE.size;have HW:=qd hW
 have hnm:n<=64:=by rw[hn];exact hok
 obtain⟨uP,tc1,tc2⟩:=(h.below hB).cells;rw[<-hn]at uP;unfold bT aI fP aP;have HT:=qd (h.below hB);have av:=qd (hE.next hB);have HM:=qd (show aN W P (x.add c 0)from hM.below hB);have HL:=qd (hL);have HR:=qd (hR);have HF:=qd (hF);have HO:=qd (show aj W _ _ (yL (dX fr none (aM (T.gs.take 0))))from hO);have ah:=qd (Mod.of_below hB [P.mb]);have z1:=ah.o.size;obtain⟨lb,hlb⟩:∃lb,lb=w.heap.size:=⟨_,rfl⟩;obtain⟨rb,hrb⟩:∃rb,rb=w.heap.size+1:=⟨_,rfl⟩;obtain⟨fb,nO⟩:∃fb,fb=w.heap.size+1+1:=⟨_,rfl⟩;obtain⟨ob,nA⟩:∃ob,ob=w.heap.size+1+1+1:=⟨_,rfl⟩;clear hW hB h hM hL hE hR hF hO;go_in;go_upto_region 3 with fail;rw[<-HW.o,<-nA,<-nO,<-hrb,<-hlb];rw[<-hlb]at HL;rw[<-hrb]at HR;rw[<-nO]at HF;rw[<-nA]at HO
 have n1:lb<rb:=by omega
 have n2:rb<fb:=by omega
 have n3:fb<ob:=by omega
 have n4:P.mb<lb:=by omega
 have n5:tb<lb:=by omega
 have n6:gb<lb:=by omega
 have n7:W0.heap.size<=lb:=by omega
 have n8:w.heap.size<=lb:=by omega
 clear hlb hrb nO nA HW;have HN:=qd hn;have HFR:=qd hfr;have HFC:=qd (show(#[.int .u64 (key:Int),.int .u64 0,.int .u64 (hash:Int)]:Array Value)= #[.int .u64 ((fr).key:Int),.int .u64 ((fr).val:Int),.int .u64 ((fr).hash:Int)]from by rw[hfr];rfl);clear hfr hn;go_wp2;clear uP tc1 tc2;go_loopw [12,13,15,24] (λv12 _ _ i wr=>∃k:Nat,k<=n/\i= .int .i64 k/\v12= .bool (dX fr none (aM (T.gs.take k))).isSome/\aN wr P (x.add c k)/\aj wr ob 67 (yL (dX fr none (aM (T.gs.take k))))/\TabAt wr tb gb T/\Env W0 E wr/\aj wr lb 153 #[.pointer (some ⟨P.mb,P.mo,none⟩),.int .i64 c.p,.int .i64 c.v,.int .i64 c.u]/\aj wr rb 67 #[.int .u64 0,.int .u64 0,.int .u64 0]/\aj wr fb 67 #[.int .u64 ((fr).key:Int),.int .u64 ((fr).val:Int),.int .u64 ((fr).hash:Int)]/\Mod [P.mb] w wr) (λ_ _ _ i _=>n-(intOf i).toNat)
 case atStart=>exact⟨0,by omega,rfl,rfl,HM.o,HO.o,HT.o,av.o,HL.o,HR.o,HFC.o▸HF.o,ah.o⟩
 case round=>
  clear HM HO HT av HL HR HF ah;obtain⟨k,hk,rfl,rfl,hM,hO,hT,hE,hL,hR,hF,hm⟩:=hrel;by_cases hlt:k<n
  ·have hlt':(k:Int)<(n:Int):=by omega
   have hk0:(0:Int)<=(k:Int):=by omega
   have Jq:k<T.gs.length:=by rw[<-HN.o];exact hlt
   have HT:=qd (hT);have HM:=qd (hM);have av:=qd (hE);have HO:=qd (hO);have HL:=qd (hL);have HR:=qd (hR);have HF:=qd (hF);have ah:=qd (hm);clear hT hM hE hO hL hR hF hm;obtain⟨o,ho⟩:∃o,o=dX fr none (aM (T.gs.take k)):=⟨_,rfl⟩;rw[<-ho]at HO|-;have HOo:=qd ho;clear ho;obtain⟨G,hG⟩:∃G,G=T.gs.getD k []:=⟨_,rfl⟩;have SN:=qd hG;clear hG;have uP:=HT.o.cells.1;rw[<-HN.o]at uP;have lc:=HL.o.c4;go_upto_region 7 with fail;have z1:=qJ ah.o.size (qJ HT.o.aS (qJ HT.o.aT (qJ HM.o.lt (qJ HO.o.lt (qJ HL.o.lt (qJ HR.o.lt HF.o.lt))))));have uO:=qd (xP ⟨gb,k*25,none⟩ P.mb P.mt P.pre P.post P.mo (x.add c k).all (x.add c k).last P.m c wr.drew (HM.o.below (Below.refl _ _).drew));unfold aI at uO;refine rT (λ(w':World)=>w'.cell? ⟨tb,0,none⟩=some (.slice (some ⟨gb,0,none⟩) n n)/\w'.cell? ⟨lb,0,none⟩=some (.pointer (some ⟨P.mb,P.mo,none⟩))/\w'.cell? ⟨lb,1,none⟩=some (.int .i64 c.p)/\w'.cell? ⟨lb,2,none⟩=some (.int .i64 c.v)/\w'.cell? ⟨lb,3,none⟩=some (.int .i64 c.u)) [] ?_;have hHeld:=(⟨uP,lc.1,lc.2.1,lc.2.2.1,lc.2.2.2⟩:_/\_/\_/\_/\_);refine vW 0 rfl ?_;refine vW 1 rfl ?_;refine vW 2 rfl ?_;refine vT 3 rfl ?_;refine vW 4 rfl ?_;refine vW 5 rfl ?_;refine vT 6 rfl ?_;refine vW 10 rfl ?_;refine nT 7 rfl λK hK=> ?_;go_simp;refine(uO.o).mono ?_;rintro y w1 ⟨rfl,hM1,hm⟩;replace hm:Mod [P.mb] wr w1:=(Mod.drewN [P.mb] wr 1).then hm;clear uO HM uP lc;replace HT:=qM hm HT;replace av:=qM hm av;replace HO:=qM hm HO;replace HL:=qM hm HL;replace HR:=qM hm HR;replace HF:=qM hm HF;have z9:=(hm).size
   replace ah:=qU ah hm;have HM:=qd (show aN w1 P (x.add c (k+1))from hM1);clear hM1 hm;unfold bG;have uP:=HT.o.cells.1;rw[<-HN.o]at uP;have lc:=HL.o.c4;have bI:=qd (Ga gb 215 _ _ (k*25) _ w1 (HT.o.group k Jq) av.o.tz);rw[<-SN.o]at bI;unfold bG at bI;go_simp;have hHeld:=(⟨uP,lc.1,lc.2.1,lc.2.2.1,lc.2.2.2⟩:_/\_/\_/\_/\_);refine kO hK ?_;clear hK K;refine nT 8 rfl λK hK=> ?_;go_simp;refine(bI.o).mono ?_;rintro y w2 ⟨A,cc,rfl,yM,hb⟩;clear uP lc;replace HT:=qB hb HT;replace av:=qB hb av;replace HO:=qB hb HO;replace HL:=qB hb HL;replace HR:=qB hb HR;replace HF:=qB hb HF;replace HM:=qB hb HM;have z10:=(hb).size;replace ah:=qT ah hb;have iB:=qd (yM);clear yM hb bI;have uP:=HT.o.cells.1;rw[<-HN.o]at uP;have lc:=HL.o.c4;go_simp;have hHeld:=(⟨uP,lc.1,lc.2.1,lc.2.2.1,lc.2.2.2⟩:_/\_/\_/\_/\_);refine kO hK ?_;clear hK K;refine vW 9 rfl ?_;refine aV (by kernel_rfl) ?_ _;obtain⟨es,hes⟩:∃es,es=bX G:=⟨_,rfl⟩;rw[<-hes]at iB|-
   have af5:es.length<=8:=by have h1:=zC G;have h2:=HT.o.wide.at_ Jq;rw[<-SN.o]at h2;rw[hes];omega
   have HEs:=qd hes;clear hes;have z11:=ah.o.size;go_wp2;clear uP lc;go_loopw [12,15,37] (λv12 _ i wr=>∃j:Nat,j<=es.length/\i= .int .i64 j/\v12= .bool (dX fr o (es.take j)).isSome/\aj wr ob 67 (yL (dX fr o (es.take j)))/\TabAt wr tb gb T/\Env W0 E wr/\aj wr lb 153 #[.pointer (some ⟨P.mb,P.mo,none⟩),.int .i64 c.p,.int .i64 c.v,.int .i64 c.u]/\aj wr rb 67 #[.int .u64 0,.int .u64 0,.int .u64 0]/\aj wr fb 67 #[.int .u64 ((fr).key:Int),.int .u64 ((fr).val:Int),.int .u64 ((fr).hash:Int)]/\Mod [P.mb] w wr/\aN wr P (x.add c (k+1))/\wr.ownsRow w1.heap.size 67 3 (.slice A es.length cc) es.length (es.flatMap aU)) (λ_ _ i _=>es.length-(intOf i).toNat)
   case atStart=>exact⟨0,by omega,rfl,rfl,HO.o,HT.o,av.o,HL.o,HR.o,HF.o,ah.o,HM.o,iB.o⟩
   case round=>
    clear HM HO HT av HL HR HF ah iB;obtain⟨j,hj,rfl,rfl,hO,hT,hE,hL,hR,hF,hm,hM,yM⟩:=hrel;by_cases hlt2:j<es.length
    ·have UN:(j:Int)<(es.length:Int):=by omega
     have hj0:(0:Int)<=(j:Int):=by omega
     obtain⟨e,he⟩:∃e,es[j]?=some e:=⟨_,zg hlt2⟩;obtain⟨g,rfl,hgb,k0,k1,k2,hjn⟩:=LQ yM he;have eO:=qd (RD fr o he);clear he hjn;have HT:=qd (hT);have HM:=qd (hM);have av:=qd (hE);have HO:=qd (hO);have HL:=qd (hL);have HR:=qd (hR);have HF:=qd (hF);have iB:=qd (yM);have ah:=qd (hm);clear hT hM hE hO hL hR hF hm yM;obtain⟨o2,ho2⟩:∃o2,o2=dX fr o (es.take j):=⟨_,rfl⟩;rw[<-ho2]at HO eO|-;clear ho2;go_upto_region 10 with fail;have z1:=qJ ah.o.size (qJ HT.o.aS (qJ HT.o.aT (qJ HM.o.lt (qJ HO.o.lt (qJ HL.o.lt (qJ HR.o.lt (qJ HF.o.lt ah.o.size)))))));refine dL 67 #[.int .u64 ((e).key:Int),.int .u64 ((e).val:Int),.int .u64 ((e).hash:Int)] ?_;rintro w3 ⟨hnew,hb⟩;obtain⟨xb,hxb⟩:∃xb,xb=wr.heap.size:=⟨_,rfl⟩;rw[<-hxb]at hnew|-
     replace hxb:wr.heap.size<=xb:=by omega
     clear k0 k1 k2;replace HT:=qB hb HT;replace HM:=qB hb HM;replace av:=qB hb av;replace HO:=qB hb HO;replace HL:=qB hb HL;replace HR:=qB hb HR;replace HF:=qB hb HF;replace iB:=qB hb iB;have z10:=(hb).size;replace ah:=qT ah hb;have HX:=qd (hnew);clear hnew hb
     cases hl:bO e fr with
     |true=>
      have fE:=qd (kW e fr w3);rw[hl]at fE;unfold aP at fE;replace eO:=qd (show dX fr o (es.take (j+1))=o2 from by rw[eO.o];unfold oC;rw[hl];simp);clear hl;have xc:=HX.o.c3;have fc:=HF.o.c3;go_wp2_with fail;refine(fE.o).mono ?_;rintro x w4 ⟨rfl,hb⟩;clear xc fc;replace HT:=qB hb HT;replace HM:=qB hb HM;replace av:=qB hb av;replace HO:=qB hb HO;replace HL:=qB hb HL;replace HR:=qB hb HR;replace HF:=qB hb HF;replace iB:=qB hb iB;replace HX:=qB hb HX;have aan:=(hb).size;replace ah:=qT ah hb;clear hb;go_wp2;go_roundw
      case rel=>exact⟨j+1,by omega,by go_num,by rw[eO.o]<;>rfl,by rw[eO.o];exact HO.o,HT.o,av.o,HL.o,HR.o,HF.o,ah.o,HM.o,iB.o⟩
      case measure=>simp[intOf];omega
     |false=>
      cases o2 with
      |none=>
       replace HO:=qd (show aj w3 ob 67 #[.int .u64 0,.int .u64 0,.int .u64 0]from HO.o);have fE:=qd (kW e fr w3);rw[hl]at fE;unfold aP at fE;replace eO:=qd (show dX fr o (es.take (j+1))=some e from by rw[eO.o];unfold oC;rw[hl];rfl);clear hl;have xc:=HX.o.c3;have fc:=HF.o.c3;go_wp2_with fail;refine(fE.o).mono ?_;rintro x w4 ⟨rfl,hb⟩;clear xc fc;replace HT:=qB hb HT;replace HM:=qB hb HM;replace av:=qB hb av;replace HO:=qB hb HO;replace HL:=qB hb HL;replace HR:=qB hb HR;replace HF:=qB hb HF;replace iB:=qB hb iB;replace HX:=qB hb HX;have aan:=(hb).size;replace ah:=qT ah hb;clear hb;have xc:=HX.o.c3;have oc:=HO.o.c3;have of:=HO.o.f3;go_upto_region 12 with fail;have ahA:=qJ HT.o.aS (qJ HT.o.aT (qJ HM.o.lt (qJ HO.o.lt (qJ HL.o.lt (qJ HR.o.lt (qJ HF.o.lt HX.o.lt))))));refine Li HO.o ?_;rintro w6 ⟨hnew,hm⟩;simp only[pt]at hnew;replace HT:=qM hm HT;replace HM:=qM hm HM;replace av:=qM hm av;replace HL:=qM hm HL;replace HR:=qM hm HR;replace HF:=qM hm HF;replace iB:=qM hm iB;replace HX:=qM hm HX;have ahB:=(hm).size;replace ah:=qU ah hm;replace HO:=qd hnew;clear hnew hm;go_wp2;go_roundw
       case rel=>exact⟨j+1,by omega,by go_num,by rw[eO.o]<;>rfl,by rw[eO.o];exact HO.o,HT.o,av.o,HL.o,HR.o,HF.o,ah.o,HM.o,iB.o⟩
       case measure=>simp[intOf];omega
      |some b=>
       cases hlb:bO e b with
       |true=>
        replace HO:=qd (show aj w3 ob 67 #[.int .u64 ((b).key:Int),.int .u64 ((b).val:Int),.int .u64 ((b).hash:Int)]from HO.o);have fE:=qd (kW e fr w3);rw[hl]at fE;unfold aP at fE;replace eO:=qd (show dX fr o (es.take (j+1))=some e from by rw[eO.o];unfold oC;rw[hl];simp[hlb]);have yN:=qd (λV:World=>kW e b V);rw[hlb]at yN;unfold aP at yN;clear hlb hl;have xc:=HX.o.c3;have fc:=HF.o.c3;go_wp2_with fail;refine(fE.o).mono ?_;rintro x w4 ⟨rfl,hb⟩;clear xc fc;replace HT:=qB hb HT;replace HM:=qB hb HM;replace av:=qB hb av;replace HO:=qB hb HO;replace HL:=qB hb HL;replace HR:=qB hb HR;replace HF:=qB hb HF;replace iB:=qB hb iB;replace HX:=qB hb HX;have aan:=(hb).size;replace ah:=qT ah hb;clear hb;have xc:=HX.o.c3;have oc:=HO.o.c3;go_wp2_with fail;refine((yN.o w4)).mono ?_;rintro x w5 ⟨rfl,hb⟩;clear xc oc;replace HT:=qB hb HT;replace HM:=qB hb HM;replace av:=qB hb av;replace HO:=qB hb HO;replace HL:=qB hb HL;replace HR:=qB hb HR;replace HF:=qB hb HF;replace iB:=qB hb iB;replace HX:=qB hb HX;have af6:=(hb).size;replace ah:=qT ah hb;clear hb;have xc:=HX.o.c3;have oc:=HO.o.c3;have of:=HO.o.f3;go_upto_region 12 with fail;have ahC:=qJ HT.o.aS (qJ HT.o.aT (qJ HM.o.lt (qJ HO.o.lt (qJ HL.o.lt (qJ HR.o.lt (qJ HF.o.lt HX.o.lt))))));refine Li HO.o ?_;rintro w6 ⟨hnew,hm⟩;simp only[pt]at hnew;replace HT:=qM hm HT;replace HM:=qM hm HM;replace av:=qM hm av;replace HL:=qM hm HL;replace HR:=qM hm HR;replace HF:=qM hm HF;replace iB:=qM hm iB
        replace HX:=qM hm HX;have ahD:=(hm).size;replace ah:=qU ah hm;replace HO:=qd hnew;clear hnew hm;go_wp2;go_roundw
        case rel=>exact⟨j+1,by omega,by go_num,by rw[eO.o]<;>rfl,by rw[eO.o];exact HO.o,HT.o,av.o,HL.o,HR.o,HF.o,ah.o,HM.o,iB.o⟩
        case measure=>simp[intOf];omega
       |false=>
        replace HO:=qd (show aj w3 ob 67 #[.int .u64 ((b).key:Int),.int .u64 ((b).val:Int),.int .u64 ((b).hash:Int)]from HO.o);have fE:=qd (kW e fr w3);rw[hl]at fE;unfold aP at fE;replace eO:=qd (show dX fr o (es.take (j+1))=some b from by rw[eO.o];unfold oC;rw[hl];simp[hlb]);have yN:=qd (λV:World=>kW e b V);rw[hlb]at yN;unfold aP at yN;clear hlb hl;have xc:=HX.o.c3;have fc:=HF.o.c3;go_wp2_with fail;refine(fE.o).mono ?_;rintro x w4 ⟨rfl,hb⟩;clear xc fc;replace HT:=qB hb HT;replace HM:=qB hb HM;replace av:=qB hb av;replace HO:=qB hb HO;replace HL:=qB hb HL;replace HR:=qB hb HR;replace HF:=qB hb HF;replace iB:=qB hb iB;replace HX:=qB hb HX;have aan:=(hb).size;replace ah:=qT ah hb;clear hb;have xc:=HX.o.c3;have oc:=HO.o.c3;go_wp2_with fail;refine((yN.o w4)).mono ?_;rintro x w5 ⟨rfl,hb⟩;clear xc oc;replace HT:=qB hb HT;replace HM:=qB hb HM;replace av:=qB hb av;replace HO:=qB hb HO;replace HL:=qB hb HL;replace HR:=qB hb HR;replace HF:=qB hb HF;replace iB:=qB hb iB;replace HX:=qB hb HX;have af6:=(hb).size;replace ah:=qT ah hb;clear hb;go_wp2;go_roundw
        case rel=>exact⟨j+1,by omega,by go_num,by rw[eO.o]<;>rfl,by rw[eO.o];exact HO.o,HT.o,av.o,HL.o,HR.o,HF.o,ah.o,HM.o,iB.o⟩
        case measure=>simp[intOf];omega
    ·obtain rfl:j=es.length:=by omega
     have UN:¬(es.length:Int)<(es.length:Int):=by omega
     have lJ:=qd (show dX fr none (aM (T.gs.take (k+1)))=dX fr o es from by rw[OZ fr T.gs Jq,HOo.o,HEs.o,SN.o]);rw[yr,<-lJ.o]at hO|-;have Df:=qd (And.intro hM (And.intro hO (And.intro hT (And.intro hE (And.intro hL (And.intro hR (And.intro hF hm)))))));clear hM hO hT hE hL hR hF hm yM;go_wp2;go_roundw
     case rel=>exact⟨k+1,by omega,by go_num,rfl,Df.o⟩
     case measure=>simp[intOf];omega
  ·obtain rfl:k=n:=by omega
   have hlt':¬(k:Int)<(k:Int):=by omega
   have htk:T.gs.take k=T.gs:=by rw[HN.o];exact yr
   rw[htk]at hO|-;clear htk;obtain⟨b,hbe⟩:∃b,b=(dX fr none (aM T.gs)).getD ⟨0,0,0⟩:=⟨_,rfl⟩;obtain⟨sb,hsb⟩:∃sb,sb=(dX fr none (aM T.gs)).isSome:=⟨_,rfl⟩;have HM:=qd (hM);have HO:=qd (show aj wr ob _ #[.int .u64 ((b).key:Int),.int .u64 ((b).val:Int),.int .u64 ((b).hash:Int)]from by rw[hbe];exact hO);have HR:=qd (hR);have ah:=qd (hm);have xL:=qd hbe;clear hM hO hT hE hL hR hF hm hbe hsb;have oc:=HO.o.c3;have rc:=HR.o.c3;have rf:=HR.o.f3;go_wp2;have q1:=qJ HM.o.lt (qJ HO.o.lt HR.o.lt);refine Li HR.o ?_;rintro w9 ⟨hnew,hm⟩;simp only[pt]at hnew;replace HM:=qM hm HM;replace HO:=qM hm HO;have z4:=(hm).size;replace ah:=qU ah hm;replace HR:=qd hnew;clear hnew hm;have rx:=HR.o.c3;refine bodyPost_ret (v:= .tuple #[.agg #[.int .u64 ((b).key:Int),.int .u64 ((b).val:Int),.int .u64 ((b).hash:Int)],.bool (dX fr none (aM T.gs)).isSome]) (by simp[results,Tryz.results224,go_sem,rx.1,rx.2.1,rx.2.2]) rfl ⟨by rw[xL.o],HM.o,ah.o⟩
end
section
def cU (n:Int):bE:=⟨0,0,n⟩
def cV:bE:=⟨0,1,0⟩
def cP:bE:=⟨1,0,0⟩
def mV (b:Nat):Value:=pQ b
structure gB (w:World)(bb tb gb n k:Nat):Prop where
 blk:aj w bb 313 #[pQ tb,nI n,nI k]
 tab:TabAt w tb gb (eB n k)
 le:k<=n
 pow:Pw n
 ne1:bb≠tb
 Xb:bb≠gb
section
variable {w w' : World} {bb tb gb n k : Nat}
theorem gB.lt (h:gB w bb tb gb n k):bb<w.heap.size:=h.blk.lt
theorem gB.aS (h:gB w bb tb gb n k):tb<w.heap.size:=h.tab.aS
theorem gB.aT (h:gB w bb tb gb n k):gb<w.heap.size:=h.tab.aT
theorem gB.mod {S:List Nat}(h:gB w bb tb gb n k)(hm:Mod S w w')(h1:bb∉S)(h2:tb∉S)(h3:gb∉S):gB w' bb tb gb n k:=⟨h.blk.mod hm h1,h.tab.mod hm h2 h3,h.le,h.pow,h.ne1,h.Xb⟩
instance {w w':World}{bb tb gb n k:Nat}:Md (gB w bb tb gb n k) w w' (gB w' bb tb gb n k) (λS=>bb∉S/\tb∉S/\gb∉S):=⟨λh hm hs=>h.mod hm hs.1 hs.2.1 hs.2.2⟩
theorem gB.cells (h:gB w bb tb gb n k):w.cell? ⟨bb,0,none⟩=some (pQ tb)/\w.cell? ⟨bb,1,none⟩=some (nI n)/\w.cell? ⟨bb,2,none⟩=some (nI k):=
 ⟨h.blk.cell 0,h.blk.cell 1,h.blk.cell 2⟩
end
theorem Xc (n:Nat)(hn:Pw n)(w:World):
  Calls Tryz.prog 210 #[nI n] w λe w'=>∃bb tb gb,w.heap.size<=bb/\w.heap.size<=tb/\w.heap.size<=gb/\e= .returned (.tuple #[mV bb,.nilIface])/\gB w' bb tb gb n 0/\Below w.heap.size w w':=by
 have HR:=qd (LM n hn w);unfold bT at HR;unfold mV;go_in;go_wp2_with fail;refine(HR.o).mono ?_;rintro x w1 ⟨rfl,hT1,hb1⟩;go_wp2;refine bodyPost_ret (v:= .tuple #[pQ w1.heap.size,.nilIface]) (by simp[results,Tryz.results210,go_sem]) rfl ⟨w1.heap.size,w.heap.size+1,w.heap.size,hb1.size,by omega,by omega,rfl,⟨aj.new w1 _ _,hT1.below ((Below.refl _ _).alloc (zb _) _),Q4 _,hn, ?_, ?_⟩,hb1.alloc (by have:=hT1.aS;omega) _⟩
 ·have:=hT1.aS;omega
 ·have:=hT1.aT;omega
theorem O0 (bb n k:Nat)(p:Value)(w:World)(h:aj w bb 313 #[p,nI n,nI k]):
  Calls Tryz.prog 187 #[mV bb] w λe w'=>e= .returned (nI n)/\w=w':=by
 have c1:=h.cell 1;simp only[gl]at c1;clear h;unfold mV;go_in;go_wp2;go_ret;exact⟨rfl,rfl⟩
theorem tJ (bb n k:Nat)(p:Value)(w:World)(hk:k<=n)(hn:n<=64)(h:aj w bb 313 #[p,nI n,nI k]):
  Calls Tryz.prog 252 #[mV bb] w λe w'=>e= .returned (.int .i64 ((n-k:Nat):Int))/\w.drew=w':=by
 have c1:=h.cell 1;have c2:=h.cell 2;simp only[gl]at c1 c2;clear h;unfold mV;go_in;go_upto_region 1 with fail;go_region;go_wp2;go_ret;exact⟨iE (by omega),rfl⟩
theorem UO {W0:World}{E:Nat->Addr}(bb tb gb n k:Nat)(P:MP)(x:bS)(hk:k<n)(w:World)(h:gB w bb tb gb n k)(hM:aN w P x)(hE:Env W0 E w)(hmb:P.mb≠bb)(hmt:P.mb≠tb)(iC:P.mb≠gb)(hb0:W0.heap.size<=P.mb)(hb1:W0.heap.size<=bb)(hb2:W0.heap.size<=tb)(hb3:W0.heap.size<=gb):
  Calls Tryz.prog 279 #[mV bb,.pointer (some ⟨P.mb,P.mo,none⟩)] w λe w'=>e= .returned (.bool true)/\gB w' bb tb gb n (k+1)/\aN w' P ((x.add cV 1).add (cU 1) 1)/\Mod [P.mb,bb,tb,gb] w w':=by
 have hml:=hM.lt;have hB0:=hE.size;have hne1:=h.ne1;have hne2:=h.Xb;have hle:=h.pow.le
 have hk0:¬((n-k:Nat):Int)=0:=by omega
 have hk1:¬n<=k:=by omega
 have hk2:¬n-k=0:=by omega
 have HB:=qd (h.blk);have HT:=qd (h.tab);have av:=qd (hE);have HM:=qd (hM);have ah:=qd (Mod.refl [P.mb,bb,tb,gb] w);have HP:=qd h.pow;clear h hM hE;unfold mV;have q1:=qJ HB.o.lt (qJ HT.o.aS (qJ HT.o.aT HM.o.lt));go_in;go_upto_region 1 with fail;have bc:=HB.o.c3;refine rT (λ(w':World)=>w'.cell? ⟨bb,0,none⟩=some (pQ tb)/\w'.cell? ⟨bb,1,none⟩=some (nI n)/\w'.cell? ⟨bb,2,none⟩=some (nI k)) [] ?_;have hHeld:=(⟨bc.1,bc.2.1,bc.2.2⟩:_/\_/\_);refine vW 0 rfl ?_;refine nT 1 rfl λK hK=> ?_;go_simp;refine(tJ bb n k _ _ (by omega) hle (HB.o.mod (Mod.drewN [] w 1) (by simp))).mono ?_;rintro y w1 ⟨rfl,hw1⟩;have hm:Mod [] w w1:=hw1▸Mod.drewN [] w 2;clear hw1 bc;replace HB:=qM hm HB;replace HT:=qM hm HT;replace av:=qM hm av;replace HM:=qM hm HM;have z5:=(hm).size;replace ah:=qU ah hm;clear hm;have bc:=HB.o.c3;go_wp2_with fail;have hHeld:=(⟨bc.1,bc.2.1,bc.2.2⟩:_/\_/\_);refine kO hK ?_;clear hK K;refine tW 2 (some 7) (.bool false) rfl hHeld ?_
 try simp only[pt]
 refine tW 3 (some 8) (.bool false) rfl hHeld ?_
 try simp only[pt]
 refine vW 4 rfl ?_;refine vW 5 rfl ?_;refine vW 6 rfl ?_;refine vT 7 rfl ?_;refine vW 8 rfl ?_;refine vW 10 rfl ?_;refine vW 11 rfl ?_;refine vW 12 rfl ?_;refine vT 13 rfl ?_;refine nT 9 rfl λK hK=> ?_;go_simp;refine(wZ (some ⟨P.mb,P.mo,none⟩) _).mono ?_;rintro y w2 ⟨rfl,hb⟩;unfold aI;clear bc;replace HB:=qB hb HB;replace HT:=qB hb HT;replace av:=qB hb av;replace HM:=qB hb HM;have z6:=(hb).size;replace ah:=qT ah hb;clear hb;have bc:=HB.o.c3;go_wp2_with fail;have hHeld:=(⟨bc.1,bc.2.1,bc.2.2⟩:_/\_/\_);refine kO hK ?_;clear hK K;refine nT 14 rfl λK hK=> ?_;go_simp;have rX:=qd (Nt tb gb (eB n k) P.mb P.mt P.pre P.post P.mo x.all x.last P.m ⟨0,1,0⟩ k (by rw[show(eB n k).gs.length=n from pW (by omega)];exact hk) w2 HT.o HM.o hmt iC);unfold bT aI at rX;refine(rX.o).mono ?_;rintro y w3 ⟨rfl,C8,uK,hm⟩;clear rX HT HM bc;replace HB:=qM hm HB;replace av:=qM hm av;have z7:=(hm).size;replace ah:=qU ah hm;have HT:=qd (show TabAt w3 tb gb (eB n (k+1))from by unfold eB at C8|-;rw[<-LP hk];exact C8);have HM:=qd (show aN w3 P (x.add cV 1)from uK);clear uK C8 hm;have bc:=HB.o.c3;go_wp2_with fail;have hHeld:=(⟨bc.1,bc.2.1,bc.2.2⟩:_/\_/\_);refine kO hK ?_;clear hK K;refine tW 15 (some 20) (.bool false) rfl hHeld ?_
 try simp only[pt]
 refine tW 16 (some 21) (.bool false) rfl hHeld ?_
 try simp only[pt]
 refine aV (by kernel_rfl) ?_ _;go_upto_region 3 with fail;have HU:=qd (tC P.mb P.mt P.pre P.post P.mo _ _ P.m 1 (by omega) w3 HM.o);clear HM;go_wp2_with fail;refine(HU.o).mono ?_;rintro x w4 ⟨rfl,Jo,hm⟩;clear bc;replace HB:=qM hm HB;replace av:=qM hm av;replace HT:=qM hm HT;have z8:=(hm).size;replace ah:=qU ah hm;clear hm;have HM:=qd (show aN w4 P ((x.add cV 1).add (cU 1) 1)from Jo);clear Jo HU;have bc:=HB.o.c3;have bf:=HB.o.f3;go_upto_region 5 with fail;have q9:=qJ HB.o.lt (qJ HT.o.aS (qJ HT.o.aT HM.o.lt));refine I5 HB.o ?_;rintro w5 ⟨hnew,hm⟩;simp only[pt]at hnew;clear bc bf;replace av:=qM hm av;replace HT:=qM hm HT;replace HM:=qM hm HM;have z13:=(hm).size;replace ah:=qU ah hm;replace HB:=qd hnew;clear hnew hm;go_wp2;go_ret;exact⟨rfl,⟨HB.o,HT.o,by omega,HP.o,hne1,hne2⟩,HM.o,ah.o⟩
theorem Nu (bb tb gb n:Nat)(p:Value)(w:World)(h:gB w bb tb gb n n):
  Calls Tryz.prog 279 #[mV bb,p] w λe w'=>e= .returned (.bool false)/\Below w.heap.size w w':=by
 have hle:=h.pow.le;unfold mV;have HL:=qd (tJ bb n n _ w.drew (zb n) hle h.blk.drew);rw[ve]at HL;unfold mV at HL;go_in;go_upto_region 1 with fail;refine rT (λ(w':World)=>True) [] ?_;have hHeld:=trivial;refine vW 0 rfl ?_;refine nT 1 rfl λK hK=> ?_;go_simp;refine(HL.o).mono ?_;rintro y w1 ⟨rfl,rfl⟩;go_wp2_with fail;refine kO hK ?_;clear hK K;refine tW 2 (some 7) (.bool true) rfl hHeld ?_
 try simp only[pt]
 refine tW 3 (some 8) (.bool true) rfl hHeld ?_
 try simp only[pt]
 refine vU 4 rfl ?_;refine vU 5 rfl ?_;refine vU 6 rfl ?_;refine vU 7 rfl ?_;refine vU 8 rfl ?_;refine vU 9 rfl ?_;refine vU 10 rfl ?_;refine vU 11 rfl ?_;refine vU 12 rfl ?_;refine vU 13 rfl ?_;refine vU 14 rfl ?_;refine vU 15 rfl ?_;refine tW 16 (some 21) (.bool true) rfl hHeld ?_
 try simp only[pt]
 refine aV (by kernel_rfl) ?_ _;go_wp2;go_ret;exact⟨rfl,(Below.refl _ _).drew.drew⟩
theorem UQ (bb tb gb n:Nat)(w:World)(h:gB w bb tb gb n n):
  Calls Tryz.prog 287 #[mV bb] w λe w'=>e= .returned (.tuple #[bT tb,.nilIface])/\aj w' bb 313 #[.pointer none,nI n,nI n]/\TabAt w' tb gb (eB n n)/\Mod [bb] w w':=by
 have hle:=h.pow.le;have HL:=qd (tJ bb n n _ w (zb n) hle h.blk);rw[ve]at HL;have hne1:=h.ne1;have hne2:=h.Xb;have HB:=qd (h.blk);have HT:=qd (h.tab);have ah:=qd (Mod.refl [bb] w);clear h;unfold mV bT;unfold mV at HL;go_in;go_upto_region 1 with fail;go_wp2_with fail;refine(HL.o).mono ?_;rintro x w1 ⟨rfl,hw1⟩;have hm:Mod [] w w1:=hw1▸Mod.drewN [] w 1;clear hw1 HL;replace HB:=qM hm HB;replace HT:=qM hm HT;have z1:=(hm).size;replace ah:=qU ah hm;clear hm;have bc:=HB.o.c3;have bf:=HB.o.f3;go_upto_region 5 with fail;have q2:=qJ HB.o.lt (qJ HT.o.aS HT.o.aT);refine I5 HB.o ?_;rintro w2 ⟨hnew,hm⟩;simp only[pt]at hnew;clear bc bf;replace HT:=qM hm HT;have z5:=(hm).size;replace ah:=qU ah hm;replace HB:=qd hnew;clear hnew hm;go_wp2;refine bodyPost_ret (v:= .tuple #[pQ tb,.nilIface]) (by simp[results,Tryz.results287,go_sem]) rfl ⟨rfl,HB.o,HT.o,ah.o⟩
end
section
attribute [local go_sem] Option.isNone_some Option.isNone_none
theorem jV (w:World):Calls Tryz.prog 124 #[.nilIface] w λe w'=>e= .returned undef/\w=w':=by
 go_in;go_wp2;go_end0;exact⟨rfl,rfl⟩
theorem Ea (w:World):Calls Tryz.prog 95 #[.bool true] w λe w'=>e= .returned undef/\w=w':=by
 go_in;go_wp2;go_end0;exact⟨rfl,rfl⟩
theorem vk (a:Int)(w:World):Calls Tryz.prog 145 #[.int .i64 a,.nilIface] w λe w'=>e= .returned (.int .i64 a)/\w=w':=by
 have HR:=qd (jV w);go_in;go_wp2_with fail;refine(HR.o).mono ?_;rintro x w1 ⟨rfl,rfl⟩;go_wp2;go_ret;exact⟨rfl,rfl⟩
theorem aao (a:Int)(w:World):Calls Tryz.prog 189 #[.int .u64 a,.nilIface] w λe w'=>e= .returned (.int .u64 a)/\w=w':=by
 have HR:=qd (jV w);go_in;go_wp2_with fail;refine(HR.o).mono ?_;rintro x w1 ⟨rfl,rfl⟩;go_wp2;go_ret;exact⟨rfl,rfl⟩
theorem aap (p:Option Addr)(w:World):Calls Tryz.prog 129 #[.pointer p,.nilIface] w λe w'=>e= .returned (.pointer p)/\w=w':=by
 have HR:=qd (jV w);go_in;go_wp2_with fail;refine(HR.o).mono ?_;rintro x w1 ⟨rfl,rfl⟩;go_wp2;go_ret;exact⟨rfl,rfl⟩
theorem aaq (p:Option Addr)(w:World):Calls Tryz.prog 179 #[.pointer p,.nilIface] w λe w'=>e= .returned (.pointer p)/\w=w':=by
 have HR:=qd (jV w);go_in;go_wp2_with fail;refine(HR.o).mono ?_;rintro x w1 ⟨rfl,rfl⟩;go_wp2;go_ret;exact⟨rfl,rfl⟩
theorem LU (p:Option Addr)(w:World):Calls Tryz.prog 181 #[.pointer p,.nilIface] w λe w'=>e= .returned (.pointer p)/\w=w':=by
 have HR:=qd (jV w);go_in;go_wp2_with fail;refine(HR.o).mono ?_;rintro x w1 ⟨rfl,rfl⟩;go_wp2;go_ret;exact⟨rfl,rfl⟩
theorem Xd (p:Option Addr)(n c:Nat)(w:World):Calls Tryz.prog 281 #[.slice p n c,.nilIface] w λe w'=>e= .returned (.slice p n c)/\w=w':=by
 have HR:=qd (jV w);go_in;go_wp2_with fail;refine(HR.o).mono ?_;rintro x w1 ⟨rfl,rfl⟩;go_wp2;go_ret;exact⟨rfl,rfl⟩
theorem aar (p:Option Addr)(w:World):Calls Tryz.prog 286 #[.pointer p,.nilIface] w λe w'=>e= .returned (.pointer p)/\w=w':=by
 have HR:=qd (jV w);go_in;go_wp2_with fail;refine(HR.o).mono ?_;rintro x w1 ⟨rfl,rfl⟩;go_wp2;go_ret;exact⟨rfl,rfl⟩
theorem Xe (p:Option Addr)(w:World):Calls Tryz.prog 288 #[.pointer p,.nilIface] w λe w'=>e= .returned (.pointer p)/\w=w':=by
 have HR:=qd (jV w);go_in;go_wp2_with fail;refine(HR.o).mono ?_;rintro x w1 ⟨rfl,rfl⟩;go_wp2;go_ret;exact⟨rfl,rfl⟩
structure fO (w:World)(rb:Nat)(ts:List Nat):Prop where
 lt:rb<w.heap.size
 at_:∀j t,ts[j]?=some t->w.cell? ⟨rb,j,none⟩=some (pQ t)
theorem fO.mod {S:List Nat}{w w':World}{rb:Nat}{ts:List Nat}(h:fO w rb ts)(hm:Mod S w w')(hs:rb∉S):fO w' rb ts:=
 ⟨yp h.lt hm.size,λj t ht=>(hm.cell_ (p:=⟨rb,j,none⟩) h.lt hs).trans (h.at_ j t ht)⟩
instance {w w':World}{rb:Nat}{ts:List Nat}:Md (fO w rb ts) w w' (fO w' rb ts) (λS=>rb∉S):=⟨λh hm hs=>h.mod hm hs⟩
def ptrs (ts:List Nat):List Value:=ts.map λt=>pQ t
theorem fO.jy {w:World}{base n c:Nat}{e:TypeId}{A:Option Addr}{ts:List Nat}(h:w.ownsRow base e 1 (.slice A n c) n (ptrs ts))(hn:0<n):∃rb,A=some ⟨rb,0,none⟩/\base<=rb/\fO w rb ts/\ts.length=n:=by
 have hl:=h.1;rcases h.2 with hz|⟨g,cap,cur,hv,hb,hg,h1,h2,h3,h4⟩
 ·omega
 ·cases hv;refine⟨g,rfl,hb,⟨(qi.1 hg).1,λj t ht=> ?_⟩,by simpa[ptrs]using hl⟩;obtain⟨hj,_⟩:=zz.1 ht
  have hjn:j<n:=by simp[ptrs]at hl;omega
  have:=h.cellAt j (by omega);rw[this];unfold ptrs;rw[Q3,ht];rfl
theorem Xf (rb cap:Nat)(ts:List Nat)(hn:ts.length<=2)(w:World)(h:fO w rb ts):
  Calls Tryz.prog 293 #[.slice (some ⟨rb,0,none⟩) ts.length cap,.pointer none] w λe w'=>e= .returned (.int .i64 (-1))/\w=w':=by
 go_in;go_wp2;go_loop [5,8] (λ_ i=>∃k:Nat,k<=ts.length/\i= .int .i64 k) (λ_ i=>ts.length-(intOf i).toNat)
 case atStart=>exact⟨0,by omega,rfl⟩
 case round=>
  obtain⟨k,hk,rfl⟩:=hrel;by_cases hlt:k<ts.length
  ·have hlt':(k:Int)<(ts.length:Int):=by omega
   have hk0:(0:Int)<=(k:Int):=by omega
   have hc:=h.at_ k ts[k] (zg hlt);generalize ts[k]=tk at hc
   have hnn:(Go.binOp .eql 172 (.pointer none) (.pointer (some (⟨tk,0,none⟩:Addr)))).run Tryz.prog w= .ok (.bool false) w:=by first|rfl|kernel_rfl|simp[Go.binOp,go_sem]
   go_wp2;go_round
   case rel=>exact⟨k+1,by omega,by go_num⟩
   case measure=>simp[intOf];omega
  ·have hlt':¬(k:Int)<(ts.length:Int):=by omega
   go_wp2;go_ret;exact⟨rfl,rfl⟩
theorem contains_nil (rb cap:Nat)(ts:List Nat)(hn:ts.length<=2)(w:World)(h:fO w rb ts):
  Calls Tryz.prog 291 #[.slice (some ⟨rb,0,none⟩) ts.length cap,.pointer none] w λe w'=>e= .returned (.bool false)/\w=w':=by
 have HI:=qd (Xf rb cap ts hn w h);go_in;go_wp2_with fail;refine(HI.o).mono ?_;rintro x w1 ⟨rfl,rfl⟩;go_wp2;go_ret;exact⟨rfl,rfl⟩
end
