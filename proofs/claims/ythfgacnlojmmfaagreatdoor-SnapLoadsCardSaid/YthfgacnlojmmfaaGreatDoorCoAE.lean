/- A table's Least by its contract. -/
import Derived.Test.YthfgacnlojmmfaaGreatDoorCoAB
import Derived.Test.YthfgacnlojmmfaaGreatDoorCoN
import Derived.Test.YthfgacnlojmmfaaGreatDoorLaneP
namespace Go.Proofs.YthfgacnlojmmfaaGreatDoor
set_option maxRecDepth 100000
set_option maxHeartbeats 8000000
open Go.RowKit AmC
section
variable {j k : Nat} {es : List Ent} {e : Ent}
theorem take_nx {α:Type}{l:List α}{y:α}(h:l[k]?=some y):l.take (k+1)=l.take k++[y]:=by rw[List.take_add_one,h];rfl
def leastStep (f:Ent)(o:Option Ent)(e:Ent):Option Ent:=if !lessE e f && (match o with|none=>true|some b=>lessE e b)then some e else o
def leastL (f:Ent)(o:Option Ent)(es:List Ent):Option Ent:=es.foldl (leastStep f) o
theorem leastL_snoc (f:Ent)(o:Option Ent)(h:es[j]?=some e):leastL f o (es.take (j+1))=leastStep f (leastL f o (es.take j)) e:=by
 unfold leastL;rw[take_nx h,List.foldl_append];rfl
theorem leastL_group (f:Ent)(gs:Tab)(hk:k<gs.length):leastL f none (entsT (gs.take (k+1)))=leastL f (leastL f none (entsT (gs.take k))) (entsG (gs.getD k [])):=by
 have h:gs[k]?=some (gs.getD k []):=by rw[List.getD_eq_getElem?_getD,List.getElem?_eq_getElem hk];rfl
 rw[take_nx h];unfold leastL entsT;rw[List.flatMap_append,List.foldl_append];simp
def optCells (o:Option Ent):Array Value:=(entCells (o.getD ⟨0,0,0⟩)).toArray
theorem ent_cells {w:World}{base n c:Nat}{A:Option Addr}(h:w.ownsRow base 45 3 (.slice A n c) n (es.flatMap entCells))(he:es[j]?=some e):
  ∃g,A=some ⟨g,0,none⟩∧base≤g∧w.cell? ⟨g,j*3,none⟩=some (.int .u64 (e.key:Int))∧w.cell? ⟨g,j*3+1,none⟩=some (.int .u64 (e.val:Int))∧w.cell? ⟨g,j*3+2,none⟩=some (.int .u64 (e.hash:Int))∧j<n:=by
 have hl:=h.1;rw[ents_length]at hl;obtain⟨hj,_⟩:=List.getElem?_eq_some_iff.1 he
 have hjn:j<n:=by omega
 rcases h.2 with hn|⟨g,cap,cur,hv,hb,hg,h1,h2,h3,h4⟩
 ·omega
 ·cases hv;refine⟨g,rfl,hb, ?_⟩
  have hs:es.flatMap entCells=(es.take j).flatMap entCells++(entCells e++(es.drop (j+1)).flatMap entCells):=by
   conv=>lhs;rw[←List.take_append_drop j es,List.drop_eq_getElem?_toList_append,he]
   simp
  have hlt:((es.take j).flatMap entCells).length=j*3:=by rw[ents_length,List.length_take];omega
  have hc:∀q,q<3→w.cell? ⟨g,j*3+q,none⟩=(entCells e)[q]?:=fun q hq=>by
   have:=h.cellAt (j*3+q) (by omega);rw[this,hs,List.getElem?_append_right (by omega),hlt,Nat.add_sub_cancel_left,List.getElem?_append_left (by simpa[entCells]using hq)]
  exact⟨hc 0 (by omega),hc 1 (by omega),hc 2 (by omega),hjn⟩
theorem table_Least {W0:World}{E:Nat→Addr}(tb gb:Nat)(T:TabM)(P:MP)(x:Mtr)(c:Cnt)(hash key:Nat)(hok:T.gs.length≤64)(w:World)(h:TabAt w tb gb T)(hM:MetP w P x)(hE:Env W0 E w)(hmt:P.mb≠tb)(hmg:P.mb≠gb)(hb0:W0.heap.size≤P.mb):
  Calls Tryz.prog 175 #[tabP tb,lensV (some ⟨P.mb,P.mo,none⟩) c,.int .u64 (hash:Int),.int .u64 (key:Int)] w fun e w'=>e= .returned (optE (leastL ⟨key,0,hash⟩ none (entsT T.gs)))∧MetP w' P (x.add c T.gs.length)∧Mod [P.mb] w w':=by
 obtain⟨n,hn⟩:∃n,n=T.gs.length:=⟨_,rfl⟩;obtain⟨fr,hfr⟩:∃fr:Ent,fr=⟨key,0,hash⟩:=⟨_,rfl⟩;rw[←hfr,←hn];obtain⟨W,hW,hB,hL,hR,hF,hO⟩:=qX4 w 155 #[.pointer (some ⟨P.mb,P.mo,none⟩),.int .i64 c.p,.int .i64 c.v,.int .i64 c.u] 45 #[.int .u64 0,.int .u64 0,.int .u64 0] 45 #[.int .u64 (key:Int),.int .u64 0,.int .u64 (hash:Int)] 45 #[.int .u64 0,.int .u64 0,.int .u64 0];have hml:=hM.lt;have htl:=h.ltT;have hgl:=h.ltG;have hB0:=hE.size;have HW:=qd hW
 have hnm:n≤64:=by rw[hn];exact hok
 obtain⟨tc0,tc1,tc2⟩:=(h.below hB).cells;rw[←hn]at tc0;unfold tabP lensV optE entV;have HT:=qd (h.below hB);have HV0:=qd (hE.next hB);have HM:=qd (show MetP W P (x.add c 0)from hM.below hB);have HL:=qd (hL);have HR:=qd (hR);have HF:=qd (hF);have HO:=qd (show Blk W _ _ (optCells (leastL fr none (entsT (T.gs.take 0))))from hO);have Hmod:=qd (Mod.of_below hB [P.mb]);have z1:=Hmod.out.size;obtain⟨lb,hlb⟩:∃lb,lb=w.heap.size:=⟨_,rfl⟩;obtain⟨rb,hrb⟩:∃rb,rb=w.heap.size+1:=⟨_,rfl⟩;obtain⟨fb,hfb⟩:∃fb,fb=w.heap.size+1+1:=⟨_,rfl⟩;obtain⟨ob,hob⟩:∃ob,ob=w.heap.size+1+1+1:=⟨_,rfl⟩;clear hW hB h hM hL hE hR hF hO;go_in;go_upto_region 3 with fail;rw[←HW.out,←hob,←hfb,←hrb,←hlb];rw[←hlb]at HL;rw[←hrb]at HR;rw[←hfb]at HF;rw[←hob]at HO
 have n1:lb<rb:=by omega
 have n2:rb<fb:=by omega
 have n3:fb<ob:=by omega
 have n4:P.mb<lb:=by omega
 have n5:tb<lb:=by omega
 have n6:gb<lb:=by omega
 have n7:W0.heap.size≤lb:=by omega
 have n8:w.heap.size≤lb:=by omega
 clear hlb hrb hfb hob HW;have HN:=qd hn;have HFR:=qd hfr;have HFC:=qd (show(#[.int .u64 (key:Int),.int .u64 0,.int .u64 (hash:Int)]:Array Value)= #[.int .u64 ((fr).key:Int),.int .u64 ((fr).val:Int),.int .u64 ((fr).hash:Int)]from by rw[hfr];rfl);clear hfr hn;go_wp2;clear tc0 tc1 tc2;go_loopw [12,13,15,24] (fun v12 _ _ i wr=>∃k:Nat,k≤n∧i= .int .i64 k∧v12= .bool (leastL fr none (entsT (T.gs.take k))).isSome∧MetP wr P (x.add c k)∧Blk wr ob 45 (optCells (leastL fr none (entsT (T.gs.take k))))∧TabAt wr tb gb T∧Env W0 E wr∧Blk wr lb 155 #[.pointer (some ⟨P.mb,P.mo,none⟩),.int .i64 c.p,.int .i64 c.v,.int .i64 c.u]∧Blk wr rb 45 #[.int .u64 0,.int .u64 0,.int .u64 0]∧Blk wr fb 45 #[.int .u64 ((fr).key:Int),.int .u64 ((fr).val:Int),.int .u64 ((fr).hash:Int)]∧Mod [P.mb] w wr) (fun _ _ _ i _=>n-(intOf i).toNat)
 case atStart=>exact⟨0,by omega,rfl,rfl,HM.out,HO.out,HT.out,HV0.out,HL.out,HR.out,HFC.out▸HF.out,Hmod.out⟩
 case round=>
  clear HM HO HT HV0 HL HR HF Hmod;obtain⟨k,hk,rfl,rfl,hM,hO,hT,hE,hL,hR,hF,hm⟩:=hrel;by_cases hlt:k<n
  ·have hlt':(k:Int)<(n:Int):=by omega
   have hk0:(0:Int)≤(k:Int):=by omega
   have hkT:k<T.gs.length:=by rw[←HN.out];exact hlt
   have HT:=qd (hT);have HM:=qd (hM);have HV0:=qd (hE);have HO:=qd (hO);have HL:=qd (hL);have HR:=qd (hR);have HF:=qd (hF);have Hmod:=qd (hm);clear hT hM hE hO hL hR hF hm;obtain⟨o,ho⟩:∃o,o=leastL fr none (entsT (T.gs.take k)):=⟨_,rfl⟩;rw[←ho]at HO⊢;have HOo:=qd ho;clear ho;obtain⟨G,hG⟩:∃G,G=T.gs.getD k []:=⟨_,rfl⟩;have HGe:=qd hG;clear hG;have tc0:=HT.out.cells.1;rw[←HN.out]at tc0;have lc:=HL.out.c4;go_upto_region 7 with fail;have z1:=qJ Hmod.out.size (qJ HT.out.ltT (qJ HT.out.ltG (qJ HM.out.lt (qJ HO.out.lt (qJ HL.out.lt (qJ HR.out.lt HF.out.lt))))));have HLk:=qd (group_Look ⟨gb,k*25,none⟩ P.mb P.mt P.pre P.post P.mo (x.add c k).all (x.add c k).last P.m c wr.drew (HM.out.below (Below.refl _ _).drew));unfold lensV at HLk;refine rT (fun(w':World)=>w'.cell? ⟨tb,0,none⟩=some (.slice (some ⟨gb,0,none⟩) n n)∧w'.cell? ⟨lb,0,none⟩=some (.pointer (some ⟨P.mb,P.mo,none⟩))∧w'.cell? ⟨lb,1,none⟩=some (.int .i64 c.p)∧w'.cell? ⟨lb,2,none⟩=some (.int .i64 c.v)∧w'.cell? ⟨lb,3,none⟩=some (.int .i64 c.u)) [] ?_;have hHeld:=(⟨tc0,lc.1,lc.2.1,lc.2.2.1,lc.2.2.2⟩:_∧_∧_∧_∧_);refine vW 0 rfl ?_;refine vW 1 rfl ?_;refine vW 2 rfl ?_;refine vT 3 rfl ?_;refine vW 4 rfl ?_;refine vW 5 rfl ?_;refine vT 6 rfl ?_;refine vW 10 rfl ?_;refine nT 7 rfl fun K hK=> ?_;go_simp;refine(HLk.out).mono ?_;rintro y w1 ⟨rfl,hM1,hm⟩;replace hm:Mod [P.mb] wr w1:=(Mod.drewN [P.mb] wr 1).then hm;clear HLk HM tc0 lc;replace HT:=qM hm HT;replace HV0:=qM hm HV0;replace HO:=qM hm HO;replace HL:=qM hm HL;replace HR:=qM hm HR
   replace HF:=qM hm HF;have z9:=(hm).size;replace Hmod:=qU Hmod hm;have HM:=qd (show MetP w1 P (x.add c (k+1))from hM1);clear hM1 hm;unfold viewV;have tc0:=HT.out.cells.1;rw[←HN.out]at tc0;have lc:=HL.out.c4;have HEn:=qd (grp_Entries gb 242 _ _ (k*25) _ w1 (HT.out.group k hkT) HV0.out.tz);rw[←HGe.out]at HEn;unfold viewV at HEn;go_simp;have hHeld:=(⟨tc0,lc.1,lc.2.1,lc.2.2.1,lc.2.2.2⟩:_∧_∧_∧_∧_);refine kO hK ?_;clear hK K;refine nT 8 rfl fun K hK=> ?_;go_simp;refine(HEn.out).mono ?_;rintro y w2 ⟨A,cc,rfl,hOw,hb⟩;clear tc0 lc;replace HT:=qB hb HT;replace HV0:=qB hb HV0;replace HO:=qB hb HO;replace HL:=qB hb HL;replace HR:=qB hb HR;replace HF:=qB hb HF;replace HM:=qB hb HM;have z10:=(hb).size;replace Hmod:=qT Hmod hb;have HOw:=qd (hOw);clear hOw hb HEn;have tc0:=HT.out.cells.1;rw[←HN.out]at tc0;have lc:=HL.out.c4;go_simp;have hHeld:=(⟨tc0,lc.1,lc.2.1,lc.2.2.1,lc.2.2.2⟩:_∧_∧_∧_∧_);refine kO hK ?_;clear hK K;refine vW 9 rfl ?_;refine doneT (by kernel_rfl) ?_ _;obtain⟨es,hes⟩:∃es,es=entsG G:=⟨_,rfl⟩;rw[←hes]at HOw⊢
   have hes8:es.length≤8:=by have h1:=grp_count G;have h2:=HT.out.wide.at_ hkT;rw[←HGe.out]at h2;rw[hes];omega
   have HEs:=qd hes;clear hes;have z11:=Hmod.out.size;go_wp2;clear tc0 lc;go_loopw [12,15,37] (fun v12 _ i wr=>∃j:Nat,j≤es.length∧i= .int .i64 j∧v12= .bool (leastL fr o (es.take j)).isSome∧Blk wr ob 45 (optCells (leastL fr o (es.take j)))∧TabAt wr tb gb T∧Env W0 E wr∧Blk wr lb 155 #[.pointer (some ⟨P.mb,P.mo,none⟩),.int .i64 c.p,.int .i64 c.v,.int .i64 c.u]∧Blk wr rb 45 #[.int .u64 0,.int .u64 0,.int .u64 0]∧Blk wr fb 45 #[.int .u64 ((fr).key:Int),.int .u64 ((fr).val:Int),.int .u64 ((fr).hash:Int)]∧Mod [P.mb] w wr∧MetP wr P (x.add c (k+1))∧wr.ownsRow w1.heap.size 45 3 (.slice A es.length cc) es.length (es.flatMap entCells)) (fun _ _ i _=>es.length-(intOf i).toNat)
   case atStart=>exact⟨0,by omega,rfl,rfl,HO.out,HT.out,HV0.out,HL.out,HR.out,HF.out,Hmod.out,HM.out,HOw.out⟩
   case round=>
    clear HM HO HT HV0 HL HR HF Hmod HOw;obtain⟨j,hj,rfl,rfl,hO,hT,hE,hL,hR,hF,hm,hM,hOw⟩:=hrel;by_cases hlt2:j<es.length
    ·have hlt2':(j:Int)<(es.length:Int):=by omega
     have hj0:(0:Int)≤(j:Int):=by omega
     obtain⟨e,he⟩:∃e,es[j]?=some e:=⟨_,List.getElem?_eq_getElem hlt2⟩;obtain⟨g,rfl,hgb,k0,k1,k2,hjn⟩:=ent_cells hOw he;have HSn:=qd (leastL_snoc fr o he);clear he hjn;have HT:=qd (hT);have HM:=qd (hM);have HV0:=qd (hE);have HO:=qd (hO);have HL:=qd (hL);have HR:=qd (hR);have HF:=qd (hF);have HOw:=qd (hOw);have Hmod:=qd (hm);clear hT hM hE hO hL hR hF hm hOw;obtain⟨o2,ho2⟩:∃o2,o2=leastL fr o (es.take j):=⟨_,rfl⟩;rw[←ho2]at HO HSn⊢;clear ho2;go_upto_region 10 with fail;have z1:=qJ Hmod.out.size (qJ HT.out.ltT (qJ HT.out.ltG (qJ HM.out.lt (qJ HO.out.lt (qJ HL.out.lt (qJ HR.out.lt (qJ HF.out.lt Hmod.out.size)))))));refine nameB 45 #[.int .u64 ((e).key:Int),.int .u64 ((e).val:Int),.int .u64 ((e).hash:Int)] ?_;rintro w3 ⟨hnew,hb⟩;obtain⟨xb,hxb⟩:∃xb,xb=wr.heap.size:=⟨_,rfl⟩;rw[←hxb]at hnew⊢
     replace hxb:wr.heap.size≤xb:=by omega
     clear k0 k1 k2;replace HT:=qB hb HT;replace HM:=qB hb HM;replace HV0:=qB hb HV0;replace HO:=qB hb HO;replace HL:=qB hb HL;replace HR:=qB hb HR;replace HF:=qB hb HF;replace HOw:=qB hb HOw;have z10:=(hb).size;replace Hmod:=qT Hmod hb;have HX:=qd (hnew);clear hnew hb
     cases hl:lessE e fr with
     |true=>
      have HLs:=qd (split_Less e fr w3);rw[hl]at HLs;unfold entV at HLs;replace HSn:=qd (show leastL fr o (es.take (j+1))=o2 from by rw[HSn.out];unfold leastStep;rw[hl];simp);clear hl;have xc:=HX.out.c3;have fc:=HF.out.c3;go_wp2_with fail;refine(HLs.out).mono ?_;rintro x w4 ⟨rfl,hb⟩;clear xc fc;replace HT:=qB hb HT;replace HM:=qB hb HM;replace HV0:=qB hb HV0;replace HO:=qB hb HO;replace HL:=qB hb HL;replace HR:=qB hb HR;replace HF:=qB hb HF;replace HOw:=qB hb HOw;replace HX:=qB hb HX;have z901:=(hb).size;replace Hmod:=qT Hmod hb;clear hb;go_wp2;go_roundw
      case rel=>exact⟨j+1,by omega,by go_num,by rw[HSn.out]<;>rfl,by rw[HSn.out];exact HO.out,HT.out,HV0.out,HL.out,HR.out,HF.out,Hmod.out,HM.out,HOw.out⟩
      case measure=>simp[intOf];omega
     |false=>
      cases o2 with
      |none=>
       replace HO:=qd (show Blk w3 ob 45 #[.int .u64 0,.int .u64 0,.int .u64 0]from HO.out);have HLs:=qd (split_Less e fr w3);rw[hl]at HLs;unfold entV at HLs;replace HSn:=qd (show leastL fr o (es.take (j+1))=some e from by rw[HSn.out];unfold leastStep;rw[hl];rfl);clear hl;have xc:=HX.out.c3;have fc:=HF.out.c3;go_wp2_with fail;refine(HLs.out).mono ?_;rintro x w4 ⟨rfl,hb⟩;clear xc fc;replace HT:=qB hb HT;replace HM:=qB hb HM;replace HV0:=qB hb HV0;replace HO:=qB hb HO;replace HL:=qB hb HL;replace HR:=qB hb HR;replace HF:=qB hb HF;replace HOw:=qB hb HOw;replace HX:=qB hb HX;have z901:=(hb).size;replace Hmod:=qT Hmod hb;clear hb;have xc:=HX.out.c3;have oc:=HO.out.c3;have of:=HO.out.f3;go_upto_region 12 with fail;have q902:=qJ HT.out.ltT (qJ HT.out.ltG (qJ HM.out.lt (qJ HO.out.lt (qJ HL.out.lt (qJ HR.out.lt (qJ HF.out.lt HX.out.lt))))));refine qS3 HO.out ?_;rintro w6 ⟨hnew,hm⟩;simp only[pt]at hnew;replace HT:=qM hm HT;replace HM:=qM hm HM;replace HV0:=qM hm HV0;replace HL:=qM hm HL;replace HR:=qM hm HR;replace HF:=qM hm HF;replace HOw:=qM hm HOw;replace HX:=qM hm HX;have z910:=(hm).size;replace Hmod:=qU Hmod hm;replace HO:=qd hnew;clear hnew hm;go_wp2;go_roundw
       case rel=>exact⟨j+1,by omega,by go_num,by rw[HSn.out]<;>rfl,by rw[HSn.out];exact HO.out,HT.out,HV0.out,HL.out,HR.out,HF.out,Hmod.out,HM.out,HOw.out⟩
       case measure=>simp[intOf];omega
      |some b=>
       cases hlb:lessE e b with
       |true=>
        replace HO:=qd (show Blk w3 ob 45 #[.int .u64 ((b).key:Int),.int .u64 ((b).val:Int),.int .u64 ((b).hash:Int)]from HO.out);have HLs:=qd (split_Less e fr w3);rw[hl]at HLs;unfold entV at HLs;replace HSn:=qd (show leastL fr o (es.take (j+1))=some e from by rw[HSn.out];unfold leastStep;rw[hl];simp[hlb]);have HLb:=qd (fun V:World=>split_Less e b V);rw[hlb]at HLb;unfold entV at HLb;clear hlb hl;have xc:=HX.out.c3;have fc:=HF.out.c3;go_wp2_with fail;refine(HLs.out).mono ?_;rintro x w4 ⟨rfl,hb⟩;clear xc fc;replace HT:=qB hb HT;replace HM:=qB hb HM;replace HV0:=qB hb HV0;replace HO:=qB hb HO;replace HL:=qB hb HL;replace HR:=qB hb HR;replace HF:=qB hb HF;replace HOw:=qB hb HOw;replace HX:=qB hb HX;have z901:=(hb).size;replace Hmod:=qT Hmod hb;clear hb;have xc:=HX.out.c3;have oc:=HO.out.c3;go_wp2_with fail;refine((HLb.out w4)).mono ?_;rintro x w5 ⟨rfl,hb⟩;clear xc oc;replace HT:=qB hb HT;replace HM:=qB hb HM;replace HV0:=qB hb HV0;replace HO:=qB hb HO;replace HL:=qB hb HL;replace HR:=qB hb HR;replace HF:=qB hb HF;replace HOw:=qB hb HOw;replace HX:=qB hb HX;have z902:=(hb).size;replace Hmod:=qT Hmod hb;clear hb;have xc:=HX.out.c3;have oc:=HO.out.c3;have of:=HO.out.f3;go_upto_region 12 with fail;have q903:=qJ HT.out.ltT (qJ HT.out.ltG (qJ HM.out.lt (qJ HO.out.lt (qJ HL.out.lt (qJ HR.out.lt (qJ HF.out.lt HX.out.lt))))));refine qS3 HO.out ?_;rintro w6 ⟨hnew,hm⟩;simp only[pt]at hnew;replace HT:=qM hm HT;replace HM:=qM hm HM;replace HV0:=qM hm HV0;replace HL:=qM hm HL
        replace HR:=qM hm HR;replace HF:=qM hm HF;replace HOw:=qM hm HOw;replace HX:=qM hm HX;have z911:=(hm).size;replace Hmod:=qU Hmod hm;replace HO:=qd hnew;clear hnew hm;go_wp2;go_roundw
        case rel=>exact⟨j+1,by omega,by go_num,by rw[HSn.out]<;>rfl,by rw[HSn.out];exact HO.out,HT.out,HV0.out,HL.out,HR.out,HF.out,Hmod.out,HM.out,HOw.out⟩
        case measure=>simp[intOf];omega
       |false=>
        replace HO:=qd (show Blk w3 ob 45 #[.int .u64 ((b).key:Int),.int .u64 ((b).val:Int),.int .u64 ((b).hash:Int)]from HO.out);have HLs:=qd (split_Less e fr w3);rw[hl]at HLs;unfold entV at HLs;replace HSn:=qd (show leastL fr o (es.take (j+1))=some b from by rw[HSn.out];unfold leastStep;rw[hl];simp[hlb]);have HLb:=qd (fun V:World=>split_Less e b V);rw[hlb]at HLb;unfold entV at HLb;clear hlb hl;have xc:=HX.out.c3;have fc:=HF.out.c3;go_wp2_with fail;refine(HLs.out).mono ?_;rintro x w4 ⟨rfl,hb⟩;clear xc fc;replace HT:=qB hb HT;replace HM:=qB hb HM;replace HV0:=qB hb HV0;replace HO:=qB hb HO;replace HL:=qB hb HL;replace HR:=qB hb HR;replace HF:=qB hb HF;replace HOw:=qB hb HOw;replace HX:=qB hb HX;have z901:=(hb).size;replace Hmod:=qT Hmod hb;clear hb;have xc:=HX.out.c3;have oc:=HO.out.c3;go_wp2_with fail;refine((HLb.out w4)).mono ?_;rintro x w5 ⟨rfl,hb⟩;clear xc oc;replace HT:=qB hb HT;replace HM:=qB hb HM;replace HV0:=qB hb HV0;replace HO:=qB hb HO;replace HL:=qB hb HL;replace HR:=qB hb HR;replace HF:=qB hb HF;replace HOw:=qB hb HOw;replace HX:=qB hb HX;have z902:=(hb).size;replace Hmod:=qT Hmod hb;clear hb;go_wp2;go_roundw
        case rel=>exact⟨j+1,by omega,by go_num,by rw[HSn.out]<;>rfl,by rw[HSn.out];exact HO.out,HT.out,HV0.out,HL.out,HR.out,HF.out,Hmod.out,HM.out,HOw.out⟩
        case measure=>simp[intOf];omega
    ·obtain rfl:j=es.length:=by omega
     have hlt2':¬(es.length:Int)<(es.length:Int):=by omega
     have HNx:=qd (show leastL fr none (entsT (T.gs.take (k+1)))=leastL fr o es from by rw[leastL_group fr T.gs hkT,HOo.out,HEs.out,HGe.out]);rw[List.take_length,←HNx.out]at hO⊢;have HF2:=qd (And.intro hM (And.intro hO (And.intro hT (And.intro hE (And.intro hL (And.intro hR (And.intro hF hm)))))));clear hM hO hT hE hL hR hF hm hOw;go_wp2;go_roundw
     case rel=>exact⟨k+1,by omega,by go_num,rfl,HF2.out⟩
     case measure=>simp[intOf];omega
  ·obtain rfl:k=n:=by omega
   have hlt':¬(k:Int)<(k:Int):=by omega
   have htk:T.gs.take k=T.gs:=by rw[HN.out];exact List.take_length
   rw[htk]at hO⊢;clear htk;obtain⟨b,hbe⟩:∃b,b=(leastL fr none (entsT T.gs)).getD ⟨0,0,0⟩:=⟨_,rfl⟩;obtain⟨sb,hsb⟩:∃sb,sb=(leastL fr none (entsT T.gs)).isSome:=⟨_,rfl⟩;have HM:=qd (hM);have HO:=qd (show Blk wr ob _ #[.int .u64 ((b).key:Int),.int .u64 ((b).val:Int),.int .u64 ((b).hash:Int)]from by rw[hbe];exact hO);have HR:=qd (hR);have Hmod:=qd (hm);have HBe:=qd hbe;clear hM hO hT hE hL hR hF hm hbe hsb;have oc:=HO.out.c3;have rc:=HR.out.c3;have rf:=HR.out.f3;go_wp2;have q1:=qJ HM.out.lt (qJ HO.out.lt HR.out.lt);refine qS3 HR.out ?_;rintro w9 ⟨hnew,hm⟩;simp only[pt]at hnew;replace HM:=qM hm HM;replace HO:=qM hm HO;have z4:=(hm).size;replace Hmod:=qU Hmod hm;replace HR:=qd hnew;clear hnew hm;have rx:=HR.out.c3;refine bodyPost_ret (v:= .tuple #[.agg #[.int .u64 ((b).key:Int),.int .u64 ((b).val:Int),.int .u64 ((b).hash:Int)],.bool (leastL fr none (entsT T.gs)).isSome]) (by simp[results,Tryz.results175,go_sem,rx.1,rx.2.1,rx.2.2]) rfl ⟨by rw[HBe.out],HM.out,Hmod.out⟩
end
section
def cU (n:Int):Cnt:=⟨0,0,n⟩
def cV:Cnt:=⟨0,1,0⟩
def cP:Cnt:=⟨1,0,0⟩
def bldP (b:Nat):Value:= .pointer (some ⟨b,0,none⟩)
structure BldAt (w:World)(bb tb gb n k:Nat):Prop where
 blk:Blk w bb 335 #[.pointer (some ⟨tb,0,none⟩),.int .i64 (n:Int),.int .i64 (k:Int)]
 tab:TabAt w tb gb (prepT n k)
 le:k≤n
 pow:Pw n
 ne1:bb≠tb
 ne2:bb≠gb
section
variable {w w' : World} {bb tb gb n k : Nat}
theorem BldAt.lt (h:BldAt w bb tb gb n k):bb<w.heap.size:=h.blk.lt
theorem BldAt.ltT (h:BldAt w bb tb gb n k):tb<w.heap.size:=h.tab.ltT
theorem BldAt.ltG (h:BldAt w bb tb gb n k):gb<w.heap.size:=h.tab.ltG
theorem BldAt.mod {S:List Nat}(h:BldAt w bb tb gb n k)(hm:Mod S w w')(h1:bb∉S)(h2:tb∉S)(h3:gb∉S):BldAt w' bb tb gb n k:=⟨h.blk.mod hm h1,h.tab.mod hm h2 h3,h.le,h.pow,h.ne1,h.ne2⟩
instance {w w':World}{bb tb gb n k:Nat}:Md (BldAt w bb tb gb n k) w w' (BldAt w' bb tb gb n k) (fun S=>bb∉S∧tb∉S∧gb∉S):=⟨fun h hm hs=>h.mod hm hs.1 hs.2.1 hs.2.2⟩
theorem BldAt.cells (h:BldAt w bb tb gb n k):w.cell? ⟨bb,0,none⟩=some (.pointer (some ⟨tb,0,none⟩))∧w.cell? ⟨bb,1,none⟩=some (.int .i64 (n:Int))∧w.cell? ⟨bb,2,none⟩=some (.int .i64 (k:Int)):=
 ⟨h.blk.cell 0,h.blk.cell 1,h.blk.cell 2⟩
end
theorem build_New (n:Nat)(hn:Pw n)(w:World):
  Calls Tryz.prog 208 #[.int .i64 (n:Int)] w fun e w'=>∃bb tb gb,w.heap.size≤bb∧w.heap.size≤tb∧w.heap.size≤gb∧e= .returned (.tuple #[bldP bb,.nilIface])∧BldAt w' bb tb gb n 0∧Below w.heap.size w w':=by
 have HR:=qd (table_Raw n hn w);unfold tabP at HR;unfold bldP;go_in;go_wp2_with fail;refine(HR.out).mono ?_;rintro x w1 ⟨rfl,hT1,hb1⟩;go_wp2;refine bodyPost_ret (v:= .tuple #[.pointer (some ⟨w1.heap.size,0,none⟩),.nilIface]) (by simp[results,Tryz.results208,go_sem]) rfl ⟨w1.heap.size,w.heap.size+1,w.heap.size,hb1.size,by omega,by omega,rfl,⟨Blk.new w1 _ _,hT1.below ((Below.refl _ _).alloc (Nat.le_refl _) _),Nat.zero_le _,hn, ?_, ?_⟩,hb1.alloc (by have:=hT1.ltT;omega) _⟩
 ·have:=hT1.ltT;omega
 ·have:=hT1.ltG;omega
theorem build_Left (bb n k:Nat)(p:Value)(w:World)(hk:k≤n)(hn:n≤64)(h:Blk w bb 335 #[p,.int .i64 (n:Int),.int .i64 (k:Int)]):
  Calls Tryz.prog 259 #[bldP bb] w fun e w'=>e= .returned (.int .i64 ((n-k:Nat):Int))∧w.drew=w':=by
 have c1:=h.cell 1;have c2:=h.cell 2;simp only[gl]at c1 c2;clear h;unfold bldP;go_in;go_upto_region 1 with fail;go_region;go_wp2;go_ret;exact⟨ret_int (by omega),rfl⟩
theorem build_Step {W0:World}{E:Nat→Addr}(bb tb gb n k:Nat)(P:MP)(x:Mtr)(hk:k<n)(w:World)(h:BldAt w bb tb gb n k)(hM:MetP w P x)(hE:Env W0 E w)(hmb:P.mb≠bb)(hmt:P.mb≠tb)(hmg:P.mb≠gb)(hb0:W0.heap.size≤P.mb)(hb1:W0.heap.size≤bb)(hb2:W0.heap.size≤tb)(hb3:W0.heap.size≤gb):
  Calls Tryz.prog 288 #[bldP bb,.pointer (some ⟨P.mb,P.mo,none⟩)] w fun e w'=>e= .returned (.bool true)∧BldAt w' bb tb gb n (k+1)∧MetP w' P ((x.add cV 1).add (cU 1) 1)∧Mod [P.mb,bb,tb,gb] w w':=by
 have hml:=hM.lt;have hB0:=hE.size;have hne1:=h.ne1;have hne2:=h.ne2;have hle:=h.pow.le
 have hk0:¬((n-k:Nat):Int)=0:=by omega
 have hk1:¬n≤k:=by omega
 have hk2:¬n-k=0:=by omega
 have HB:=qd (h.blk);have HT:=qd (h.tab);have HV0:=qd (hE);have HM:=qd (hM);have Hmod:=qd (Mod.refl [P.mb,bb,tb,gb] w);have HP:=qd h.pow;clear h hM hE;unfold bldP;have q1:=qJ HB.out.lt (qJ HT.out.ltT (qJ HT.out.ltG HM.out.lt));go_in;go_upto_region 1 with fail;have bc:=HB.out.c3;refine rT (fun(w':World)=>w'.cell? ⟨bb,0,none⟩=some (.pointer (some ⟨tb,0,none⟩))∧w'.cell? ⟨bb,1,none⟩=some (.int .i64 (n:Int))∧w'.cell? ⟨bb,2,none⟩=some (.int .i64 (k:Int))) [] ?_;have hHeld:=(⟨bc.1,bc.2.1,bc.2.2⟩:_∧_∧_);refine vW 0 rfl ?_;refine nT 1 rfl fun K hK=> ?_;go_simp;refine(build_Left bb n k _ _ (by omega) hle (HB.out.mod (Mod.drewN [] w 1) (by simp))).mono ?_;rintro y w1 ⟨rfl,hw1⟩;have hm:Mod [] w w1:=hw1▸Mod.drewN [] w 2;clear hw1 bc;replace HB:=qM hm HB;replace HT:=qM hm HT;replace HV0:=qM hm HV0;replace HM:=qM hm HM;have z5:=(hm).size;replace Hmod:=qU Hmod hm;clear hm;have bc:=HB.out.c3;go_wp2_with fail;have hHeld:=(⟨bc.1,bc.2.1,bc.2.2⟩:_∧_∧_);refine kO hK ?_;clear hK K;refine tW 2 (some 7) (.bool false) rfl hHeld ?_
 try simp only[pt]
 refine tW 3 (some 8) (.bool false) rfl hHeld ?_
 try simp only[pt]
 refine vW 4 rfl ?_;refine vW 5 rfl ?_;refine vW 6 rfl ?_;refine vT 7 rfl ?_;refine vW 8 rfl ?_;refine vW 10 rfl ?_;refine vW 11 rfl ?_;refine vW 12 rfl ?_;refine vT 13 rfl ?_;refine nT 9 rfl fun K hK=> ?_;go_simp;refine(meter_Working (some ⟨P.mb,P.mo,none⟩) _).mono ?_;rintro y w2 ⟨rfl,hb⟩;unfold lensV;clear bc;replace HB:=qB hb HB;replace HT:=qB hb HT;replace HV0:=qB hb HV0;replace HM:=qB hb HM;have z6:=(hb).size;replace Hmod:=qT Hmod hb;clear hb;have bc:=HB.out.c3;go_wp2_with fail;have hHeld:=(⟨bc.1,bc.2.1,bc.2.2⟩:_∧_∧_);refine kO hK ?_;clear hK K;refine nT 14 rfl fun K hK=> ?_;go_simp;have HPr:=qd (table_Prepare tb gb (prepT n k) P.mb P.mt P.pre P.post P.mo x.all x.last P.m ⟨0,1,0⟩ k (by rw[show(prepT n k).gs.length=n from prepG_length (by omega)];exact hk) w2 HT.out HM.out hmt hmg);unfold tabP lensV at HPr;refine(HPr.out).mono ?_;rintro y w3 ⟨rfl,hT3,hM3,hm⟩;clear HPr HT HM bc;replace HB:=qM hm HB;replace HV0:=qM hm HV0;have z7:=(hm).size;replace Hmod:=qU Hmod hm;have HT:=qd (show TabAt w3 tb gb (prepT n (k+1))from by unfold prepT at hT3⊢;rw[←prepG_set hk];exact hT3);have HM:=qd (show MetP w3 P (x.add cV 1)from hM3);clear hM3 hT3 hm;have bc:=HB.out.c3;go_wp2_with fail;have hHeld:=(⟨bc.1,bc.2.1,bc.2.2⟩:_∧_∧_);refine kO hK ?_;clear hK K;refine tW 15 (some 20) (.bool false) rfl hHeld ?_
 try simp only[pt]
 refine tW 16 (some 21) (.bool false) rfl hHeld ?_
 try simp only[pt]
 refine doneT (by kernel_rfl) ?_ _;go_upto_region 3 with fail;have HU:=qd (meter_Unit P.mb P.mt P.pre P.post P.mo _ _ P.m 1 (by omega) w3 HM.out);clear HM;go_wp2_with fail;refine(HU.out).mono ?_;rintro x w4 ⟨rfl,hM4,hm⟩;clear bc;replace HB:=qM hm HB;replace HV0:=qM hm HV0;replace HT:=qM hm HT;have z8:=(hm).size;replace Hmod:=qU Hmod hm;clear hm;have HM:=qd (show MetP w4 P ((x.add cV 1).add (cU 1) 1)from hM4);clear hM4 HU;have bc:=HB.out.c3;have bf:=HB.out.f3;go_upto_region 5 with fail;have q9:=qJ HB.out.lt (qJ HT.out.ltT (qJ HT.out.ltG HM.out.lt));refine qS1 HB.out ?_;rintro w5 ⟨hnew,hm⟩;simp only[pt]at hnew;clear bc bf;replace HV0:=qM hm HV0;replace HT:=qM hm HT;replace HM:=qM hm HM;have z13:=(hm).size;replace Hmod:=qU Hmod hm;replace HB:=qd hnew;clear hnew hm;go_wp2;go_ret;exact⟨rfl,⟨HB.out,HT.out,by omega,HP.out,hne1,hne2⟩,HM.out,Hmod.out⟩
theorem build_Step_no (bb tb gb n:Nat)(p:Value)(w:World)(h:BldAt w bb tb gb n n):
  Calls Tryz.prog 288 #[bldP bb,p] w fun e w'=>e= .returned (.bool false)∧Below w.heap.size w w':=by
 have hle:=h.pow.le;unfold bldP;have HL:=qd (build_Left bb n n _ w.drew (Nat.le_refl n) hle h.blk.drew);rw[Nat.sub_self]at HL;unfold bldP at HL;go_in;go_upto_region 1 with fail;refine rT (fun(w':World)=>True) [] ?_;have hHeld:=trivial;refine vW 0 rfl ?_;refine nT 1 rfl fun K hK=> ?_;go_simp;refine(HL.out).mono ?_;rintro y w1 ⟨rfl,rfl⟩;go_wp2_with fail;refine kO hK ?_;clear hK K;refine tW 2 (some 7) (.bool true) rfl hHeld ?_
 try simp only[pt]
 refine tW 3 (some 8) (.bool true) rfl hHeld ?_
 try simp only[pt]
 refine vU 4 rfl ?_;refine vU 5 rfl ?_;refine vU 6 rfl ?_;refine vU 7 rfl ?_;refine vU 8 rfl ?_;refine vU 9 rfl ?_;refine vU 10 rfl ?_;refine vU 11 rfl ?_;refine vU 12 rfl ?_;refine vU 13 rfl ?_;refine vU 14 rfl ?_;refine vU 15 rfl ?_;refine tW 16 (some 21) (.bool true) rfl hHeld ?_
 try simp only[pt]
 refine doneT (by kernel_rfl) ?_ _;go_wp2;go_ret;exact⟨rfl,(Below.refl _ _).drew.drew⟩
theorem build_Take (bb tb gb n:Nat)(w:World)(h:BldAt w bb tb gb n n):
  Calls Tryz.prog 296 #[bldP bb] w fun e w'=>e= .returned (.tuple #[tabP tb,.nilIface])∧Blk w' bb 335 #[.pointer none,.int .i64 (n:Int),.int .i64 (n:Int)]∧TabAt w' tb gb (prepT n n)∧Mod [bb] w w':=by
 have hle:=h.pow.le;have HL:=qd (build_Left bb n n _ w (Nat.le_refl n) hle h.blk);rw[Nat.sub_self]at HL;have hne1:=h.ne1;have hne2:=h.ne2;have HB:=qd (h.blk);have HT:=qd (h.tab);have Hmod:=qd (Mod.refl [bb] w);clear h;unfold bldP tabP;unfold bldP at HL;go_in;go_upto_region 1 with fail;go_wp2_with fail;refine(HL.out).mono ?_;rintro x w1 ⟨rfl,hw1⟩;have hm:Mod [] w w1:=hw1▸Mod.drewN [] w 1;clear hw1 HL;replace HB:=qM hm HB;replace HT:=qM hm HT;have z1:=(hm).size;replace Hmod:=qU Hmod hm;clear hm;have bc:=HB.out.c3;have bf:=HB.out.f3;go_upto_region 5 with fail;have q2:=qJ HB.out.lt (qJ HT.out.ltT HT.out.ltG);refine qS1 HB.out ?_;rintro w2 ⟨hnew,hm⟩;simp only[pt]at hnew;clear bc bf;replace HT:=qM hm HT;have z5:=(hm).size;replace Hmod:=qU Hmod hm;replace HB:=qd hnew;clear hnew hm;go_wp2;refine bodyPost_ret (v:= .tuple #[.pointer (some ⟨tb,0,none⟩),.nilIface]) (by simp[results,Tryz.results296,go_sem]) rfl ⟨rfl,HB.out,HT.out,Hmod.out⟩
end
section
attribute [local go_sem] Option.isNone_some Option.isNone_none
theorem trap_Raise (w:World):Calls Tryz.prog 103 #[.nilIface] w fun e w'=>e= .returned undef∧w=w':=by
 go_in;go_wp2;go_end0;exact⟨rfl,rfl⟩
theorem trap_Need (w:World):Calls Tryz.prog 75 #[.bool true] w fun e w'=>e= .returned undef∧w=w':=by
 go_in;go_wp2;go_end0;exact⟨rfl,rfl⟩
theorem must_int (a:Int)(w:World):Calls Tryz.prog 134 #[.int .i64 a,.nilIface] w fun e w'=>e= .returned (.int .i64 a)∧w=w':=by
 have HR:=qd (trap_Raise w);go_in;go_wp2_with fail;refine(HR.out).mono ?_;rintro x w1 ⟨rfl,rfl⟩;go_wp2;go_ret;exact⟨rfl,rfl⟩
theorem must_u64 (a:Int)(w:World):Calls Tryz.prog 121 #[.int .u64 a,.nilIface] w fun e w'=>e= .returned (.int .u64 a)∧w=w':=by
 have HR:=qd (trap_Raise w);go_in;go_wp2_with fail;refine(HR.out).mono ?_;rintro x w1 ⟨rfl,rfl⟩;go_wp2;go_ret;exact⟨rfl,rfl⟩
theorem must_cop (p:Option Addr)(w:World):Calls Tryz.prog 108 #[.pointer p,.nilIface] w fun e w'=>e= .returned (.pointer p)∧w=w':=by
 have HR:=qd (trap_Raise w);go_in;go_wp2_with fail;refine(HR.out).mono ?_;rintro x w1 ⟨rfl,rfl⟩;go_wp2;go_ret;exact⟨rfl,rfl⟩
theorem must_dir (p:Option Addr)(w:World):Calls Tryz.prog 162 #[.pointer p,.nilIface] w fun e w'=>e= .returned (.pointer p)∧w=w':=by
 have HR:=qd (trap_Raise w);go_in;go_wp2_with fail;refine(HR.out).mono ?_;rintro x w1 ⟨rfl,rfl⟩;go_wp2;go_ret;exact⟨rfl,rfl⟩
theorem must_node (p:Option Addr)(w:World):Calls Tryz.prog 164 #[.pointer p,.nilIface] w fun e w'=>e= .returned (.pointer p)∧w=w':=by
 have HR:=qd (trap_Raise w);go_in;go_wp2_with fail;refine(HR.out).mono ?_;rintro x w1 ⟨rfl,rfl⟩;go_wp2;go_ret;exact⟨rfl,rfl⟩
theorem must_ents (p:Option Addr)(n c:Nat)(w:World):Calls Tryz.prog 290 #[.slice p n c,.nilIface] w fun e w'=>e= .returned (.slice p n c)∧w=w':=by
 have HR:=qd (trap_Raise w);go_in;go_wp2_with fail;refine(HR.out).mono ?_;rintro x w1 ⟨rfl,rfl⟩;go_wp2;go_ret;exact⟨rfl,rfl⟩
theorem must_tab (p:Option Addr)(w:World):Calls Tryz.prog 295 #[.pointer p,.nilIface] w fun e w'=>e= .returned (.pointer p)∧w=w':=by
 have HR:=qd (trap_Raise w);go_in;go_wp2_with fail;refine(HR.out).mono ?_;rintro x w1 ⟨rfl,rfl⟩;go_wp2;go_ret;exact⟨rfl,rfl⟩
theorem must_evac (p:Option Addr)(w:World):Calls Tryz.prog 297 #[.pointer p,.nilIface] w fun e w'=>e= .returned (.pointer p)∧w=w':=by
 have HR:=qd (trap_Raise w);go_in;go_wp2_with fail;refine(HR.out).mono ?_;rintro x w1 ⟨rfl,rfl⟩;go_wp2;go_ret;exact⟨rfl,rfl⟩
structure RowAt (w:World)(rb:Nat)(ts:List Nat):Prop where
 lt:rb<w.heap.size
 at_:∀j t,ts[j]?=some t→w.cell? ⟨rb,j,none⟩=some (.pointer (some ⟨t,0,none⟩))
theorem RowAt.mod {S:List Nat}{w w':World}{rb:Nat}{ts:List Nat}(h:RowAt w rb ts)(hm:Mod S w w')(hs:rb∉S):RowAt w' rb ts:=
 ⟨Nat.lt_of_lt_of_le h.lt hm.size,fun j t ht=>(hm.cell_ (p:=⟨rb,j,none⟩) h.lt hs).trans (h.at_ j t ht)⟩
instance {w w':World}{rb:Nat}{ts:List Nat}:Md (RowAt w rb ts) w w' (RowAt w' rb ts) (fun S=>rb∉S):=⟨fun h hm hs=>h.mod hm hs⟩
def ptrs (ts:List Nat):List Value:=ts.map fun t=> .pointer (some ⟨t,0,none⟩)
theorem RowAt.of_own {w:World}{base n c:Nat}{e:TypeId}{A:Option Addr}{ts:List Nat}(h:w.ownsRow base e 1 (.slice A n c) n (ptrs ts))(hn:0<n):∃rb,A=some ⟨rb,0,none⟩∧base≤rb∧RowAt w rb ts∧ts.length=n:=by
 have hl:=h.1;rcases h.2 with hz|⟨g,cap,cur,hv,hb,hg,h1,h2,h3,h4⟩
 ·omega
 ·cases hv;refine⟨g,rfl,hb,⟨(Array.getElem?_eq_some_iff.1 hg).1,fun j t ht=> ?_⟩,by simpa[ptrs]using hl⟩;obtain⟨hj,_⟩:=List.getElem?_eq_some_iff.1 ht
  have hjn:j<n:=by simp[ptrs]at hl;omega
  have:=h.cellAt j (by omega);rw[this];unfold ptrs;rw[List.getElem?_map,ht];rfl
theorem index_nil (rb cap:Nat)(ts:List Nat)(hn:ts.length≤2)(w:World)(h:RowAt w rb ts):
  Calls Tryz.prog 304 #[.slice (some ⟨rb,0,none⟩) ts.length cap,.pointer none] w fun e w'=>e= .returned (.int .i64 (-1))∧w=w':=by
 go_in;go_wp2;go_loop [5,8] (fun _ i=>∃k:Nat,k≤ts.length∧i= .int .i64 k) (fun _ i=>ts.length-(intOf i).toNat)
 case atStart=>exact⟨0,by omega,rfl⟩
 case round=>
  obtain⟨k,hk,rfl⟩:=hrel;by_cases hlt:k<ts.length
  ·have hlt':(k:Int)<(ts.length:Int):=by omega
   have hk0:(0:Int)≤(k:Int):=by omega
   have hc:=h.at_ k ts[k] (List.getElem?_eq_getElem hlt);generalize ts[k]=tk at hc
   have hnn:(Go.binOp .eql 185 (.pointer none) (.pointer (some (⟨tk,0,none⟩:Addr)))).run Tryz.prog w= .ok (.bool false) w:=by first|rfl|kernel_rfl|simp[Go.binOp,go_sem]
   go_wp2;go_round
   case rel=>exact⟨k+1,by omega,by go_num⟩
   case measure=>simp[intOf];omega
  ·have hlt':¬(k:Int)<(ts.length:Int):=by omega
   go_wp2;go_ret;exact⟨rfl,rfl⟩
theorem contains_nil (rb cap:Nat)(ts:List Nat)(hn:ts.length≤2)(w:World)(h:RowAt w rb ts):
  Calls Tryz.prog 301 #[.slice (some ⟨rb,0,none⟩) ts.length cap,.pointer none] w fun e w'=>e= .returned (.bool false)∧w=w':=by
 have HI:=qd (index_nil rb cap ts hn w h);go_in;go_wp2_with fail;refine(HI.out).mono ?_;rintro x w1 ⟨rfl,rfl⟩;go_wp2;go_ret;exact⟨rfl,rfl⟩
end
end Go.Proofs.YthfgacnlojmmfaaGreatDoor
