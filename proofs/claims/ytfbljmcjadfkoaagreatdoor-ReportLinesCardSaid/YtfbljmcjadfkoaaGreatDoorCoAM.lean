/- A table's Take by its contract. -/
import Derived.Test.YtfbljmcjadfkoaaGreatDoorCoEnv
import Derived.Test.YtfbljmcjadfkoaaGreatDoorSqM
import Derived.Test.YtfbljmcjadfkoaaGreatDoorSq
import Derived.Test.YtfbljmcjadfkoaaGreatDoorTabW
import Derived.Test.YtfbljmcjadfkoaaGreatDoorSqT
namespace Go.Proofs.YtfbljmcjadfkoaaGreatDoor
set_option maxRecDepth 100000
set_option maxHeartbeats 8000000
open Go.RowKit AmC
theorem table_Take {W0:World}{E:Nat→Addr}(tb gb:Nat)(T:TabM)(P:MP)(x:Mtr)(c:Cnt)(g:Nat)(hg:g<T.gs.length)(hok:TOk T)(w:World)(h:TabAt w tb gb T)(hM:MetP w P x)(hE:Env W0 E w)(hmt:P.mb≠tb)(hmg:P.mb≠gb)(hb0:W0.heap.size≤P.mb)(hb1:W0.heap.size≤tb)(hb2:W0.heap.size≤gb):
  Calls Tryz.prog 333 #[tabP tb,lensV (some ⟨P.mb,P.mo,none⟩) c,.int .i64 (g:Int)] w fun e w'=>∃A cc,e= .returned (.tuple #[.slice A (entsG (T.gs.getD g [])).length cc,.nilIface])∧
   w'.ownsRow w.heap.size 199 3 (.slice A (entsG (T.gs.getD g [])).length cc) (entsG (T.gs.getD g [])).length ((entsG (T.gs.getD g [])).flatMap entCells)∧TabAt w' tb gb (takeN T g 8)∧MetP w' P (x.add c 1)∧Mod [P.mb,tb,gb] w w':=by
 have hB:=(Below.refl w.heap.size w).alloc (Nat.le_refl _) (.cells #[.pointer (some ⟨P.mb,P.mo,none⟩),.int .i64 c.p,.int .i64 c.v,.int .i64 c.u] 203);have hL:=Blk.new w 203 #[.pointer (some ⟨P.mb,P.mo,none⟩),.int .i64 c.p,.int .i64 c.v,.int .i64 c.u];obtain⟨W,hW⟩:∃W,W=w.alloc (.cells #[.pointer (some ⟨P.mb,P.mo,none⟩),.int .i64 c.p,.int .i64 c.v,.int .i64 c.u] 203):=⟨_,rfl⟩;rw[←hW]at hB hL;obtain⟨lc0,lc1,lc2,lc3⟩:=hL.c4;have hml:=hM.lt;have htl:=h.ltT;have hgl:=h.ltG;have hB0:=hE.size;have HW:=qd hW
 have hg0:(g:Int)<(T.gs.length:Int):=by omega
 have HLk:=qd (table_look tb gb T P.mb P.mt P.pre P.post P.mo x.all x.last P.m c g hg W (h.below hB) (hM.below hB) hmt hmg);have HOk:=qd hok;unfold tabP lensV viewV at HLk;unfold tabP lensV;have HT:=qd (h.below hB);have HV0:=qd (hE.next hB);have Hmod:=qd (Mod.of_below hB [P.mb,tb,gb]);clear hW hB h hM hL hE hok;generalize hGn:T.gs.getD g []=G;go_in;go_upto_region 1 with fail;rw[←HW.out];go_wp2_with fail;refine(HLk.out).mono ?_;rintro x w1 ⟨rfl,hM1,hm⟩;clear lc0 lc1 lc2 lc3;replace HT:=qM hm HT;replace HV0:=qM hm HV0;replace Hmod:=qU Hmod hm;clear hm;have HM:=qd (show MetP w1 P (x.add c 1)from hM1);clear hM1;go_upto_region 4 with fail;have q1:=qJ HT.out.ltT (qJ HT.out.ltG (qJ HM.out.lt Hmod.out.size));refine nameB 235 #[.pointer (some ⟨gb,g*25,none⟩)] ?_;rintro w2 ⟨hnew,hb⟩;obtain⟨vb,hvb⟩:∃vb,vb=w1.heap.size:=⟨_,rfl⟩;rw[←hvb]at hnew⊢
 replace hvb:w1.heap.size≤vb:=by omega
 replace HT:=qB hb HT;replace HV0:=qB hb HV0;replace HM:=qB hb HM;replace Hmod:=qT Hmod hb;have HV:=qd (hnew);clear hnew hb;have z5:=Hmod.out.size;have vc0:=HV.out.cell 0;simp only[List.getElem?_toArray,List.getElem?_cons_zero]at vc0;have HEn:=qd (grp_Entries gb 239 _ _ (g*25) _ w2 (HT.out.group g hg) HV0.out.tz);rw[hGn]at HEn;unfold viewV at HEn;go_wp2_with fail;refine(HEn.out).mono ?_;rintro x w3 ⟨A,cc,rfl,hO,hb⟩;clear vc0;replace HT:=qB hb HT;replace HV0:=qB hb HV0;replace HM:=qB hb HM;replace HV:=qB hb HV;replace Hmod:=qT Hmod hb;clear hb;have hwl:=Hmod.out.size;have HO:=qd (hO);clear hO;have q6:=qJ HT.out.ltT (qJ HT.out.ltG (qJ HM.out.lt HV.out.lt));clear HW;go_wp2;go_loopw [11,12,13,26] (fun _ _ _ i wr=>∃k:Nat,k≤8∧i= .int .i64 k∧TabAt wr tb gb (takeN T g k)∧MetP wr P (x.add c 1)∧Env W0 E wr∧wr.ownsRow w2.heap.size 199 3 (.slice A (entsG G).length cc) (entsG G).length ((entsG G).flatMap entCells)∧Blk wr vb 235 #[.pointer (some ⟨gb,g*25,none⟩)]∧Mod [P.mb,tb,gb] w wr) (fun _ _ _ i _=>8-(intOf i).toNat)
 case atStart=>exact⟨0,by omega,rfl,HT.out,HM.out,HV0.out,HO.out,HV.out,Hmod.out⟩
 case round=>
  clear HT HM HV0 HO HV Hmod;obtain⟨k,hk,rfl,hT,hM,hE,hO,hV,hm⟩:=hrel;by_cases hlt:k<8
  ·have hlt':(k:Int)<8:=by omega
   have HT:=qd (hT);have HM:=qd (hM);have HV0:=qd (hE);have HO:=qd (hO);have HV:=qd (hV);have Hmod:=qd (hm);clear hT hM hE hO hV hm
   have hgk:g<(takeN T g k).gs.length:=by rw[takeN_length];exact hg
   have HG:=qd (HT.out.group g hgk);have HOe:=qd (HOk.out.tkN g k);have vc0:=HV.out.cell 0;simp only[List.getElem?_toArray,List.getElem?_cons_zero]at vc0
   cases hsl:slotAt (takeN T g k).gs g k with
   |full e=>
    have HAt:=qd (grp_At_full gb 239 _ _ (g*25) _ wr HG.out k hlt e (by unfold slotAt at hsl;exact hsl));unfold viewV entV at HAt;clear HG;go_wp2_with fail;refine(HAt.out).mono ?_;rintro x w4 ⟨rfl,hb⟩;clear vc0;replace HT:=qB hb HT;replace HM:=qB hb HM;replace HV0:=qB hb HV0;replace HO:=qB hb HO;replace HV:=qB hb HV;replace Hmod:=qT Hmod hb;clear hb HAt;go_upto_region 10 with fail;have q1:=qJ HT.out.ltT (qJ HT.out.ltG (qJ HM.out.lt (qJ HV.out.lt Hmod.out.size)));refine nameB 199 #[.int .u64 (e.key:Int),.int .u64 (e.val:Int),.int .u64 (e.hash:Int)] ?_;rintro w5 ⟨hnew,hb⟩;replace HT:=qB hb HT;replace HM:=qB hb HM;replace HV0:=qB hb HV0;replace HO:=qB hb HO;replace HV:=qB hb HV;replace Hmod:=qT Hmod hb;have HD:=qd (hnew);clear hnew hb;have vc0:=HV.out.cell 0;simp only[List.getElem?_toArray,List.getElem?_cons_zero]at vc0;have HEr:=qd (table_erase tb gb (takeN T g k) g k hgk hlt e hsl HOe.out.small w5 HT.out);unfold tabP placeV at HEr;clear HT HD;go_wp2_with fail;refine(HEr.out).mono ?_;rintro x w6 ⟨rfl,hT6,hm⟩;clear vc0;replace HM:=qM hm HM;replace HV0:=qM hm HV0;replace HO:=qM hm HO;replace HV:=qM hm HV;replace Hmod:=qU Hmod hm;clear hm;have HT:=qd (hT6);clear hT6;have HNx:=qd (show takeN T g (k+1)=eraseM (takeN T g k) g k from by show eraseIf _ _ _=_;unfold eraseIf;rw[hsl];rfl);clear hsl;go_wp2;go_roundw
    case rel=>exact⟨k+1,by omega,by go_num,by rw[HNx.out];exact HT.out,HM.out,HV0.out,HO.out,HV.out,Hmod.out⟩
    case measure=>simp[intOf];omega
   |empty=>
    have HAt:=qd (grp_At_no gb 239 _ _ (g*25) _ wr HG.out k hlt (by unfold slotAt at hsl;rw[hsl];rfl) E (HV0.out.errs.at_ 5 (by omega) (by omega)));unfold viewV entV at HAt;clear HG;go_wp2_with fail;refine(HAt.out).mono ?_;rintro x w4 ⟨rfl,hb⟩;clear vc0;replace HT:=qB hb HT;replace HM:=qB hb HM;replace HV0:=qB hb HV0;replace HO:=qB hb HO;replace HV:=qB hb HV;replace Hmod:=qT Hmod hb;clear hb HAt;have HNx:=qd (show takeN T g (k+1)=takeN T g k from by show eraseIf _ _ _=_;unfold eraseIf;rw[hsl];rfl);clear hsl;go_upto_region 11 with fail;have q1:=qJ HT.out.ltT (qJ HT.out.ltG (qJ HM.out.lt (qJ HV.out.lt Hmod.out.size)));refine nameB 199 #[.int .u64 0,.int .u64 0,.int .u64 0] ?_;rintro w5 ⟨hnew,hb⟩;replace HT:=qB hb HT;replace HM:=qB hb HM;replace HV0:=qB hb HV0;replace HO:=qB hb HO;replace HV:=qB hb HV;replace Hmod:=qT Hmod hb;have HD:=qd (hnew);clear hnew hb;go_wp2;go_roundw
    case rel=>exact⟨k+1,by omega,by go_num,by rw[HNx.out];exact HT.out,HM.out,HV0.out,HO.out,HV.out,Hmod.out⟩
    case measure=>simp[intOf];omega
   |tomb=>
    have HAt:=qd (grp_At_no gb 239 _ _ (g*25) _ wr HG.out k hlt (by unfold slotAt at hsl;rw[hsl];rfl) E (HV0.out.errs.at_ 5 (by omega) (by omega)));unfold viewV entV at HAt;clear HG;go_wp2_with fail;refine(HAt.out).mono ?_;rintro x w4 ⟨rfl,hb⟩;clear vc0;replace HT:=qB hb HT;replace HM:=qB hb HM;replace HV0:=qB hb HV0;replace HO:=qB hb HO;replace HV:=qB hb HV;replace Hmod:=qT Hmod hb;clear hb HAt;have HNx:=qd (show takeN T g (k+1)=takeN T g k from by show eraseIf _ _ _=_;unfold eraseIf;rw[hsl];rfl);clear hsl;go_upto_region 11 with fail;have q1:=qJ HT.out.ltT (qJ HT.out.ltG (qJ HM.out.lt (qJ HV.out.lt Hmod.out.size)));refine nameB 199 #[.int .u64 0,.int .u64 0,.int .u64 0] ?_;rintro w5 ⟨hnew,hb⟩;replace HT:=qB hb HT;replace HM:=qB hb HM;replace HV0:=qB hb HV0;replace HO:=qB hb HO;replace HV:=qB hb HV;replace Hmod:=qT Hmod hb;have HD:=qd (hnew);clear hnew hb;go_wp2;go_roundw
    case rel=>exact⟨k+1,by omega,by go_num,by rw[HNx.out];exact HT.out,HM.out,HV0.out,HO.out,HV.out,Hmod.out⟩
    case measure=>simp[intOf];omega
  ·obtain rfl:k=8:=by omega
   have HF:=qd (And.intro hT (And.intro hM (And.intro (own_base hO (show w.heap.size≤w2.heap.size by omega)) hm)));clear hT hM hE hO hV hm
   have hlt':¬((8:Nat):Int)<8:=by omega
   go_wp2;refine bodyPost_ret (v:= .tuple #[.slice A (entsG G).length cc,.nilIface]) (by simp[results,Tryz.results333,go_sem]) rfl ⟨A,cc,rfl,HF.out.2.2.1,HF.out.1,HF.out.2.1,HF.out.2.2.2⟩
theorem evac_Step {W0:World}{E:Nat→Addr}(eb tb gb vb cap:Nat)(depth next:Nat)(bs:List (Nat×Nat))(T:TabM)(Ts:List TabM)(P:MP)(x:Mtr)(hk:1≤bs.length∧bs.length≤2)(hd:depth≤15)(w:World)
  (h:EvAt w eb tb vb cap (bs.map Prod.fst) depth next) (ht:TabAt w tb gb T) (hok:TOk T) (hn:next<T.gs.length) (hts:TabsAt w bs Ts) (hfit:Fits bs.length depth Ts (entsG (T.gs.getD next [])))
  (hM:MetP w P x) (hE:Env W0 E w) (hbd:∀b∈bs,b.1∉[P.mb,eb,vb,tb,gb]∧b.2∉[P.mb,eb,vb,tb,gb]) (hmd:P.mb∉[eb,vb,tb,gb]) (hed:eb∉[vb,tb,gb]) (hvd:vb∉[tb,gb])
  (hb0:W0.heap.size≤P.mb) (hb1:W0.heap.size≤tb) (hb2:W0.heap.size≤gb) (_:W0.heap.size≤eb) (hb4:∀b∈bs,W0.heap.size≤b.1∧W0.heap.size≤b.2):
  Calls Tryz.prog 329 #[.pointer (some ⟨eb,0,none⟩),.pointer (some ⟨P.mb,P.mo,none⟩)] w fun e w'=>e= .returned (.bool true)∧EvAt w' eb tb vb cap (bs.map Prod.fst) depth (next+1)∧TabAt w' tb gb (takeN T next 8)∧
   TabsAt w' bs (moveL bs.length depth ((x.add (cU 1) 1).add cV 1,Ts) (entsG (T.gs.getD next []))).2∧MetP w' P (moveL bs.length depth ((x.add (cU 1) 1).add cV 1,Ts) (entsG (T.gs.getD next []))).1∧Mod (P.mb::eb::tb::gb::flatB bs) w w':=by
 simp only[List.mem_cons,List.not_mem_nil,or_false,not_or]at hmd hed hvd hbd;have hml:=hM.lt;have hB0:=hE.size;have HLf:=qd (evac_Left eb tb gb vb cap _ depth next T w h ht (by omega) hok.pow.le);have hle:=hok.pow.le
 obtain⟨dn,hdn⟩:∃dn,dn=T.gs.length-next:=⟨_,rfl⟩
 rw[←hdn]at HLf
 have hd0:¬(dn:Int)=0:=by omega
 have hd1:¬dn=0:=by omega
 obtain⟨bn,hbn⟩:∃bn,bn=(bs.map Prod.fst).length:=⟨_,rfl⟩;have hbl:(bs.map Prod.fst).length=bs.length:=List.length_map ..;have HOk:=qd hok
 have hbs:∀b∈bs,b.1<w.heap.size∧b.2<w.heap.size:=fun b hb=>by
  obtain⟨j,hj⟩:=List.getElem?_of_mem hb;obtain⟨hlt,_⟩:=List.getElem?_eq_some_iff.1 hj
  have hlt2:j<Ts.length:=by rw[←hts.len];exact hlt
  have:=hts.at_ j b Ts[j] hj (List.getElem?_eq_getElem hlt2);exact⟨this.ltT,this.ltG⟩
 obtain⟨es,hes⟩:∃es,es=entsG (T.gs.getD next []):=⟨_,rfl⟩;rw[←hes]at hfit⊢;have HEs:=qd hes;clear hes;have HBd:=qd hbd;have HV:=qd (h);have HT:=qd (ht);have HTs:=qd (hts);have HV0:=qd (hE);have HM:=qd (hM);have Hmod:=qd (Mod.refl (P.mb::eb::tb::gb::flatB bs) w);have HF:=qd hfit;clear h ht hts hE hM hok hdn hfit;have q1:=qJ HV.out.lt (qJ HV.out.ltV (qJ HT.out.ltT (qJ HT.out.ltG HM.out.lt)));go_in;go_upto_region 1 with fail;go_wp2_with fail;refine(HLf.out).mono ?_;rintro y w1 ⟨rfl,hw1⟩;have hm:Mod [] w w1:=hw1▸Mod.drewN [] w 1;clear hw1 HLf;replace HV:=qM hm HV;replace HT:=qM hm HT;replace HTs:=qd (HTs.out.mod hm (fun b hb=>by have hh:=hbd b hb;simp<;>omega));replace HV0:=qM hm HV0;replace HM:=qM hm HM;have z6:=(hm).size;replace Hmod:=qU Hmod hm;clear hm;have HU:=qd (meter_Unit P.mb P.mt P.pre P.post P.mo _ _ P.m 1 (by omega) w1 HM.out);clear HM;go_wp2_with fail;refine(HU.out).mono ?_;rintro x w2 ⟨rfl,hM2,hm⟩;replace HV:=qM hm HV;replace HT:=qM hm HT;replace HTs:=qd (HTs.out.mod hm (fun b hb=>by have hh:=hbd b hb;simp<;>omega));replace HV0:=qM hm HV0;have z7:=(hm).size;replace Hmod:=qU Hmod hm;clear hm;have HM:=qd (show MetP w2 P (x.add (cU 1) 1)from hM2);clear hM2 HU;go_upto_region 4 with fail;have hEb:=HV.out.blk;rw[←hbn]at hEb;have HEb:=qd (hEb);clear hEb;have ec:=HEb.out.c4;refine rT (fun(w':World)=>w'.cell? ⟨eb,0,none⟩=some (.pointer (some ⟨tb,0,none⟩))∧w'.cell? ⟨eb,3,none⟩=some (.int .i64 (next:Int))) [] ?_;have hHeld:=(⟨ec.1,ec.2.2.2⟩:_∧_);refine vW 0 rfl ?_
 refine vW 1 rfl ?_;refine vW 2 rfl ?_;refine vT 3 rfl ?_;refine vW 4 rfl ?_;refine vW 6 rfl ?_;refine vW 7 rfl ?_;refine vW 8 rfl ?_;refine vT 9 rfl ?_;refine vW 15 rfl ?_;refine nT 5 rfl fun K hK=> ?_;go_simp;refine(meter_Working (some ⟨P.mb,P.mo,none⟩) _).mono ?_;rintro y w3 ⟨rfl,hb⟩;replace hb:Below w2.heap.size w2 w3:=below_nx hb (Below.refl _ _).drew;unfold lensV;clear ec;replace HV:=qB hb HV;replace HT:=qB hb HT;replace HTs:=qd (HTs.out.mod (Mod.of_below hb []) (by simp));replace HV0:=qB hb HV0;replace HM:=qB hb HM;replace HEb:=qB hb HEb;have z8:=(hb).size;replace Hmod:=qT Hmod hb;clear hb;have ec:=HEb.out.c4;go_wp2_with fail;have hHeld:=(⟨ec.1,ec.2.2.2⟩:_∧_);refine kO hK ?_;clear hK K;refine nT 10 rfl fun K hK=> ?_;go_simp;have HTk:=qd (table_Take tb gb T P (x.add (cU 1) 1) cV next hn HOk.out w3 HT.out HM.out HV0.out (by omega) (by omega) hb0 hb1 hb2);unfold tabP lensV cV at HTk;refine(HTk.out).mono ?_;rintro y w4 ⟨A,cc,rfl,hOw,hT4,hM4,hm⟩;clear HTk HT HM ec;replace HV:=qM hm HV;replace HTs:=qd (HTs.out.mod hm (fun b hb=>by have hh:=hbd b hb;simp<;>omega));replace HV0:=qM hm HV0;replace HEb:=qM hm HEb;have z9:=(hm).size;replace Hmod:=qU Hmod hm;have HT:=qd (hT4);have HM:=qd (hM4);have HOw:=qd (hOw);clear hT4 hM4 hOw hm;have ec:=HEb.out.c4;rw[←HEs.out]at HOw⊢;go_wp2_with fail;have hHeld:=(⟨ec.1,ec.2.2.2⟩:_∧_);refine kO hK ?_;clear hK K;refine vW 11 rfl ?_;refine vW 12 rfl ?_;refine nT 13 rfl fun K hK=> ?_;go_simp;refine(must_ents A es.length cc w4).mono ?_
 rintro y w5 ⟨rfl,rfl⟩;go_wp2_with fail;have hHeld:=(⟨ec.1,ec.2.2.2⟩:_∧_);refine kO hK ?_;clear hK K;refine vW 14 rfl ?_;refine doneT (by kernel_rfl) ?_ _
 have hes8:es.length≤8:=by have h1:=grp_count (T.gs.getD next []);have h2:=HOk.out.wide.at_ hn;rw[HEs.out];omega
 clear hd0 hd1;go_wp2;clear ec HEb;obtain⟨st0,hst0⟩:∃st0:Mtr×List TabM,st0=((x.add (cU 1) 1).add cV 1,Ts):=⟨_,rfl⟩;go_loopw [6,7,8,29] (fun _ _ _ i wr=>∃j:Nat,j≤es.length∧i= .int .i64 j∧EvAt wr eb tb vb cap (bs.map Prod.fst) depth next∧TabAt wr tb gb (takeN T next 8)∧TabsAt wr bs (moveL bs.length depth st0 (es.take j)).2∧MetP wr P (moveL bs.length depth st0 (es.take j)).1∧Env W0 E wr∧wr.ownsRow w3.heap.size 199 3 (.slice A es.length cc) es.length (es.flatMap entCells)∧Mod (P.mb::eb::tb::gb::flatB bs) w wr) (fun _ _ _ i _=>es.length-(intOf i).toNat)
 case atStart=>exact⟨0,by omega,rfl,HV.out,HT.out,by rw[hst0];exact HTs.out,by rw[hst0];exact HM.out,HV0.out,HOw.out,Hmod.out⟩
 case round=>
  clear HV HT HTs HM HV0 HOw Hmod;obtain⟨j,hj,rfl,hV,hT,hTs,hM,hE,hOw,hm⟩:=hrel;by_cases hlt:j<es.length
  ·have hlt':(j:Int)<(es.length:Int):=by omega
   have hj0:(0:Int)≤(j:Int):=by omega
   obtain⟨e,he⟩:∃e,es[j]?=some e:=⟨_,List.getElem?_eq_getElem hlt⟩;obtain⟨g,rfl,hgb,k0,k1,k2,hjn⟩:=ent_cells hOw he;have HSn:=qd (moveL_snoc bs.length depth st0 he);obtain⟨T1,hT1,hcp⟩:=fits_at (x:=(x.add (cU 1) 1).add cV 1) HF.out he;rw[←hst0]at hT1;clear he hjn;obtain⟨st,hst⟩:∃st,st=moveL bs.length depth st0 (es.take j):=⟨_,rfl⟩;rw[←hst]at hTs hM HSn hT1;clear hst;obtain⟨sd,hsd⟩:∃sd,sd=sideOf bs.length depth e.hash:=⟨_,rfl⟩;have HSd:=qd hsd;rw[←hsd]at hT1;clear hsd;obtain⟨b,hb⟩:∃b,bs[sd]?=some b:=⟨_,List.getElem?_eq_getElem (by rw[hTs.len];exact(List.getElem?_eq_some_iff.1 hT1).1)⟩;have hbm:=List.mem_of_getElem? hb;have hbb:=hbd b hbm;have hbs4:=hbs b hbm;have hb4b:=hb4 b hbm;have HBi:=qd hb;have HT1:=qd hT1;have HCp:=qd hcp;clear hb hT1 hcp;have HV:=qd (hV);have HT:=qd (hT);have HTs:=qd (hTs);have HM:=qd (hM);have HV0:=qd (hE);have HOw:=qd (hOw);have Hmod:=qd (hm);clear hV hT hTs hM hE hOw hm;have HTg:=qd (fun(V:World) (hV:EvAt V eb tb vb cap (bs.map Prod.fst) depth next)=>evac_Target eb tb vb cap (bs.map Prod.fst) depth next e.hash b.1 (by rw[List.length_map];exact hk) hd HCp.out.h64 (by rw[List.length_map,←HSd.out,List.getElem?_map,HBi.out];rfl) V hV);unfold tabP at HTg;go_upto_region 7 with fail;have q1:=qJ HV.out.lt (qJ HV.out.ltV (qJ HT.out.ltT (qJ HT.out.ltG (qJ HM.out.lt Hmod.out.size))));refine nameB 199 #[.int .u64 (e.key:Int),.int .u64 (e.val:Int),.int .u64 (e.hash:Int)] ?_;rintro w6 ⟨hnew,hb⟩;obtain⟨xb,hxb⟩:∃xb,xb=wr.heap.size:=⟨_,rfl⟩;rw[←hxb]at hnew⊢
   replace hxb:wr.heap.size≤xb:=by omega
   clear k0 k1 k2;replace HV:=qB hb HV;replace HT:=qB hb HT;replace HTs:=qd (HTs.out.mod (Mod.of_below hb []) (by simp));replace HM:=qB hb HM;replace HV0:=qB hb HV0;replace HOw:=qB hb HOw;have z7:=(hb).size;replace Hmod:=qT Hmod hb;have HX:=qd (hnew);clear hnew hb;have xc:=HX.out.c3;obtain⟨i,s,hfr⟩:=HCp.out.free;have HFr:=qd hfr;clear hfr;refine rT (fun(w':World)=>w'.cell? ⟨xb,0,none⟩=some (.int .u64 (e.key:Int))∧w'.cell? ⟨xb,1,none⟩=some (.int .u64 (e.val:Int))∧w'.cell? ⟨xb,2,none⟩=some (.int .u64 (e.hash:Int))) [] ?_;have hHeld:=(⟨xc.1,xc.2.1,xc.2.2⟩:_∧_∧_);refine vW 0 rfl ?_;refine vW 1 rfl ?_;refine vT 2 rfl ?_;refine vW 4 rfl ?_;refine vT 6 rfl ?_;refine nT 3 rfl fun K hK=> ?_;go_simp;refine(HTg.out _ (HV.out.mod (Mod.drewN [] w6 1) (by simp) (by simp))).mono ?_;rintro y w7 ⟨rfl,hb⟩;replace hb:Below w6.heap.size w6 w7:=below_nx hb (Below.refl _ _).drew;clear xc;replace HV:=qB hb HV;replace HT:=qB hb HT;replace HTs:=qd (HTs.out.mod (Mod.of_below hb []) (by simp));replace HM:=qB hb HM;replace HV0:=qB hb HV0;replace HOw:=qB hb HOw;replace HX:=qB hb HX;have z8:=(hb).size;replace Hmod:=qT Hmod hb;clear hb;have xc:=HX.out.c3;go_wp2_with fail;have hHeld:=(⟨xc.1,xc.2.1,xc.2.2⟩:_∧_∧_);refine kO hK ?_;clear hK K;refine nT 5 rfl fun K hK=> ?_;go_simp;refine(meter_Working (some ⟨P.mb,P.mo,none⟩) _).mono ?_;rintro y w8 ⟨rfl,hb⟩;unfold lensV;clear xc;replace HV:=qB hb HV;replace HT:=qB hb HT;replace HTs:=qd (HTs.out.mod (Mod.of_below hb []) (by simp));replace HM:=qB hb HM
   replace HV0:=qB hb HV0;replace HOw:=qB hb HOw;replace HX:=qB hb HX;have z9:=(hb).size;replace Hmod:=qT Hmod hb;clear hb;have xc:=HX.out.c3;go_wp2_with fail;have hHeld:=(⟨xc.1,xc.2.1,xc.2.2⟩:_∧_∧_);refine kO hK ?_;clear hK K;refine nT 7 rfl fun K hK=> ?_;go_simp;have HPt:=qd (table_Put_new b.1 b.2 T1 P.mb P.mt P.pre P.post P.mo st.1.all st.1.last P.m cV e w8 (HTs.out.at_ sd b T1 HBi.out HT1.out) HCp.out.ok.pow HCp.out.h64 HM.out (by omega) (by omega) HV0.out.tz (by have:=HV0.out.tzlt;omega) HCp.out.none_ i s HFr.out HCp.out.ok.small HCp.out.room);unfold tabP lensV entV cV at HPt;refine(HPt.out).mono ?_;rintro y w9 ⟨rfl,hT9,hM9,hm⟩;clear HPt HM;have hTs9:=HTs.out.set_ HBi.out hT9 hm (by intro q hq;simp at hq;rcases hq with rfl|rfl|rfl;exact .inr (.inr (fun c hc=>by have:=hbd c hc;omega));exact .inl rfl;exact .inr (.inl rfl));clear HTs hT9;have hm0:Mod (P.mb::eb::tb::gb::flatB bs) w8 w9:=hm.more (by intro q hq;simp at hq;rcases hq with rfl|rfl|rfl;simp;simp[mem_flatB];exact .inr (.inr (.inr (.inr ⟨_,_,hbm,.inl rfl⟩)));simp[mem_flatB];exact .inr (.inr (.inr (.inr ⟨_,_,hbm,.inr rfl⟩))));have HmO:=Hmod;clear Hmod;have Hmod:=qd (Mod.refl [P.mb,b.1,b.2] w8);clear xc;replace HV:=qM hm HV;replace HT:=qM hm HT;replace HV0:=qM hm HV0;replace HOw:=qM hm HOw;replace HX:=qM hm HX;have z10:=(hm).size;replace Hmod:=qU Hmod hm;clear Hmod;have Hmod:=qd (HmO.out.then hm0);clear HmO hm0 hm;have HTs:=qd (hTs9);have HM:=qd (show MetP w9 P (st.1.add cV (seek T1.gs e.key e.hash).2.2)from hM9)
   clear hTs9 hM9;have xc:=HX.out.c3;go_wp2_with fail;have hHeld:=(⟨xc.1,xc.2.1,xc.2.2⟩:_∧_∧_);refine kO hK ?_;clear hK K;refine vW 8 rfl ?_;refine vW 9 rfl ?_;refine vW 10 rfl ?_;refine vW 11 rfl ?_;refine vW 12 rfl ?_;refine doneT (by kernel_rfl) ?_ _
   have hgd:st.2.getD sd noT=T1:=by rw[List.getD_eq_getElem?_getD,HT1.out];rfl
   have HNx:=qd (show moveL bs.length depth st0 (es.take (j+1))=(st.1.add cV (seek T1.gs e.key e.hash).2.2,st.2.set sd (placeM T1 i s e))from by rw[HSn.out];unfold moveOne;rw[←HSd.out,hgd];unfold putNew;rw[HFr.out]);clear hgd;have HNd:=qd (trap_Need w9);go_wp2_with fail;refine(HNd.out).mono ?_;rintro y w10 ⟨rfl,rfl⟩;clear xc;go_wp2;go_roundw
   case rel=>exact⟨j+1,by omega,by go_num,HV.out,HT.out,by rw[HNx.out];exact HTs.out,by rw[HNx.out];exact HM.out,HV0.out,HOw.out,Hmod.out⟩
   case measure=>simp[intOf];omega
  ·obtain rfl:j=es.length:=by omega
   have hlt':¬(es.length:Int)<(es.length:Int):=by omega
   rw[List.take_length]at hTs hM;have HEb:=qd (hV.blk);have HW:=qd (hV.row);have HT:=qd (hT);have HTs:=qd (hTs);have HM:=qd (hM);have Hmod:=qd (hm);clear hV hT hTs hM hE hOw hm;have q1:=qJ HEb.out.lt (qJ HW.out.lt (qJ HT.out.ltT (qJ HT.out.ltG HM.out.lt)));have ec:=HEb.out.c4;have ef:=HEb.out.f4;go_upto_region 11 with fail;have q6:=qJ HEb.out.lt (qJ HW.out.lt (qJ HT.out.ltT (qJ HT.out.ltG HM.out.lt)));refine qS1 HEb.out ?_;rintro w11 ⟨hnew,hm⟩;simp only[pt]at hnew;clear ec ef;replace HW:=qM hm HW;replace HT:=qM hm HT;replace HTs:=qd (HTs.out.mod hm (fun b hb=>by have hh:=hbd b hb;simp<;>omega));replace HM:=qM hm HM;have z11:=(hm).size;replace Hmod:=qU Hmod hm;replace HEb:=qd hnew;clear hnew hm;go_wp2;go_ret;exact⟨rfl,⟨HEb.out,HW.out⟩,HT.out,by rw[←hst0];exact HTs.out,by rw[←hst0];exact HM.out,Hmod.out⟩
section
def kOf (n k i:Nat):Nat:=min n (k-i*n)
def footB (db rb ob og:Nat)(bl:List (Nat×Nat×Nat)):List Nat:=db::rb::ob::og::bl.flatMap fun b=> [b.1,b.2.1,b.2.2]
structure DuB (w:World)(db rb cap ob og:Nat)(bl:List (Nat×Nat×Nat))(T:TabM)(n depth k:Nat):Prop where
 blk:Blk w db 273 #[.pointer (some ⟨ob,0,none⟩),.int .i64 (depth:Int),.slice (some ⟨rb,0,none⟩) bl.length cap,.slice none 0 0,.pointer none,.bool false]
 row:RowAt w rb (bl.map fun b=>b.1)
 blds:∀(i:Nat) (b:Nat×Nat×Nat),bl[i]?=some b→BldAt w b.1 b.2.1 b.2.2 n (kOf n k i)
 tab:TabAt w ob og T
 pow:Pw n
 many:1≤bl.length∧bl.length≤2
 lt:k<n*bl.length
 deep:depth≤15
 nd:(footB db rb ob og bl).Nodup
def footM (db rb fb eb vb ob og:Nat)(bbs:List Nat)(bs:List (Nat×Nat)):List Nat:=db::rb::fb::eb::vb::ob::og::(bbs++flatB bs)
structure DuM (w:World)(db rb cap ob og fb fcap eb vb vcap:Nat)(bbs:List Nat)(bs:List (Nat×Nat))(T:TabM)(Ts:List TabM)(n depth next:Nat):Prop where
 blk:Blk w db 273 #[.pointer (some ⟨ob,0,none⟩),.int .i64 (depth:Int),.slice (some ⟨rb,0,none⟩) bbs.length cap,.slice (some ⟨fb,0,none⟩) bs.length fcap,.pointer (some ⟨eb,0,none⟩),.bool false]
 row:RowAt w rb bbs
 blds:∀b∈bbs,Blk w b 325 #[.pointer none,.int .i64 (n:Int),.int .i64 (n:Int)]
 fresh:RowAt w fb (bs.map Prod.fst)
 ev:EvAt w eb ob vb vcap (bs.map Prod.fst) depth next
 tab:TabAt w ob og T
 tabs:TabsAt w bs Ts
 pow:Pw n
 many:1≤bs.length∧bs.length≤2
 eq:bbs.length=bs.length
 deep:depth≤15
 nd:(footM db rb fb eb vb ob og bbs bs).Nodup
section
variable {w w' : World} {db rb cap ob og fb fcap eb vb vcap : Nat} {bl : List (Nat × Nat × Nat)} {bbs : List Nat} {bs : List (Nat × Nat)} {T : TabM} {Ts : List TabM} {n depth k next : Nat}
theorem mem_footB {b:Nat×Nat×Nat}(h:b∈bl):b.1∈footB db rb ob og bl∧b.2.1∈footB db rb ob og bl∧b.2.2∈footB db rb ob og bl:=by
 have h0:∀q∈[b.1,b.2.1,b.2.2],q∈bl.flatMap fun b=> [b.1,b.2.1,b.2.2]:=fun q hq=>List.mem_flatMap.2 ⟨b,h,hq⟩;have h1:=h0 b.1 (by simp);have h2:=h0 b.2.1 (by simp);have h3:=h0 b.2.2 (by simp);unfold footB;simp only[List.mem_cons];exact⟨.inr (.inr (.inr (.inr h1))),.inr (.inr (.inr (.inr h2))),.inr (.inr (.inr (.inr h3)))⟩
theorem DuB.mod {S:List Nat}(h:DuB w db rb cap ob og bl T n depth k)(hm:Mod S w w')(hs:∀q∈footB db rb ob og bl,q∉S):DuB w' db rb cap ob og bl T n depth k:=
 ⟨h.blk.mod hm (hs _ (by simp[footB])),h.row.mod hm (hs _ (by simp[footB])),fun i b hb=>by
  obtain⟨h1,h2,h3⟩:=mem_footB (db:=db) (rb:=rb) (ob:=ob) (og:=og) (List.mem_of_getElem? hb)
  exact(h.blds i b hb).mod hm (hs _ h1) (hs _ h2) (hs _ h3),
  h.tab.mod hm (hs _ (by simp[footB])) (hs _ (by simp[footB])),h.pow,h.many,h.lt,h.deep,h.nd⟩
theorem DuM.mod {S:List Nat}(h:DuM w db rb cap ob og fb fcap eb vb vcap bbs bs T Ts n depth next)(hm:Mod S w w')(hs:∀q∈footM db rb fb eb vb ob og bbs bs,q∉S):DuM w' db rb cap ob og fb fcap eb vb vcap bbs bs T Ts n depth next:=
 ⟨h.blk.mod hm (hs _ (by simp[footM])),h.row.mod hm (hs _ (by simp[footM])),fun b hb=>(h.blds b hb).mod hm (hs _ (by unfold footM;simp[hb])),h.fresh.mod hm (hs _ (by simp[footM])),
  h.ev.mod hm (hs _ (by simp[footM])) (hs _ (by simp[footM])),h.tab.mod hm (hs _ (by simp[footM])) (hs _ (by simp[footM])),
  h.tabs.mod hm (fun b hb=>⟨hs _ (by unfold footM;simp[mem_flatB];exact .inr (.inr (.inr (.inr (.inr (.inr (.inr (.inr ⟨_,_,hb,.inl rfl⟩)))))))),hs _ (by unfold footM;simp[mem_flatB];exact .inr (.inr (.inr (.inr (.inr (.inr (.inr (.inr ⟨_,_,hb,.inr rfl⟩))))))))⟩),h.pow,h.many,h.eq,h.deep,h.nd⟩
end
def dualP (db:Nat):Value:= .pointer (some ⟨db,0,none⟩)
def sumLeft (n k:Nat):Nat→Nat
 |0=>0
 |j+1=>sumLeft n k j+(n-kOf n k j)
theorem sumLeft_eq (n k:Nat):∀j,sumLeft n k j=n*j-min k (n*j)
 |0=>by simp[sumLeft]
 |j+1=>by
  have h1:=sumLeft_eq n k j;unfold sumLeft kOf;rw[h1,Nat.mul_comm j n,Nat.mul_succ];generalize n*j=m;omega
theorem dual_Ready_no (db:Nat)(w:World)(h:w.cell? ⟨db,3,none⟩=some (.slice none 0 0)):
  Calls Tryz.prog 241 #[dualP db] w fun e w'=>e= .returned (.bool false)∧w=w':=by
 unfold dualP;go_in;go_wp2;go_ret;exact⟨rfl,rfl⟩
theorem dual_Ready_yes (db fb fn fcap:Nat)(w:World)(h:w.cell? ⟨db,3,none⟩=some (.slice (some ⟨fb,0,none⟩) fn fcap)):
  Calls Tryz.prog 241 #[dualP db] w fun e w'=>e= .returned (.bool true)∧w=w':=by
 unfold dualP;go_in;go_wp2;go_ret;exact⟨rfl,rfl⟩
theorem dual_Left_bld (db rb cap ob og:Nat)(bl:List (Nat×Nat×Nat))(T:TabM)(n depth k:Nat)(w:World)(h:DuB w db rb cap ob og bl T n depth k)(hgl:T.gs.length≤64):
  Calls Tryz.prog 286 #[dualP db] w fun e w'=>e= .returned (.int .i64 ((T.gs.length+(n*bl.length-k):Nat):Int))∧Below w.heap.size w w':=by
 have hkl0:=h.lt;have HB:=qd (h.blk);have HR:=qd (h.row);have HT:=qd (h.tab);have Hmod:=qd (Mod.refl [] w);obtain⟨many1,many2⟩:=h.many;have HBl:=qd (show∀V,Below w.heap.size w V→∀(i:Nat) (b:Nat×Nat×Nat),bl[i]?=some b→BldAt V b.1 b.2.1 b.2.2 n (kOf n k i)from fun V hV i b hb=>(h.blds i b hb).mod (Mod.of_below hV []) (by simp) (by simp) (by simp));have hn64:=h.pow.le;clear h;obtain⟨g0,hg0⟩:∃g0,g0=T.gs.length:=⟨_,rfl⟩;rw[←hg0]at hgl⊢;unfold dualP;have bc:=HB.out.c6;have HRd:=qd (dual_Ready_no db w bc.2.2.2.1);unfold dualP at HRd;have HG:=qd (table_Groups ob og T w HT.out);rw[←hg0]at HG;unfold tabP at HG;clear hg0;go_in;go_wp2_with fail;refine(HRd.out).mono ?_;rintro y w1 ⟨rfl,rfl⟩;clear HRd;go_wp2_with fail;refine(HG.out).mono ?_;rintro y w1 ⟨rfl,rfl⟩;clear HG;go_wp2;clear bc;have HRow:=HR;clear HB HR HT Hmod;go_loopw [3,5,23] (fun v3 _ i wr=>∃j:Nat,j≤bl.length∧i= .int .i64 j∧v3= .int .i64 ((g0+sumLeft n k j:Nat):Int)∧Below w.heap.size w wr) (fun _ _ i _=>bl.length-(intOf i).toNat)
 case atStart=>exact⟨0,by omega,rfl,by simp[sumLeft],Below.refl _ _⟩
 case round=>
  obtain⟨j,hj,rfl,rfl,hm⟩:=hrel;by_cases hlt:j<bl.length
  ·have hlt':(j:Int)<(bl.length:Int):=by omega
   have hj0:(0:Int)≤(j:Int):=by omega
   obtain⟨b,hb⟩:∃b,bl[j]?=some b:=⟨_,List.getElem?_eq_getElem hlt⟩;have hbl:=HBl.out wr hm j b hb;have hc:=(HRow.out.mod (Mod.of_below hm []) (by simp)).at_ j b.1 (by rw[List.getElem?_map,hb];rfl);have hkl:kOf n k j≤n:=Nat.min_le_left _ _
   have hsl:sumLeft n k j≤128:=by rw[sumLeft_eq];have:n*j≤64*2:=Nat.mul_le_mul hn64 (by omega);omega
   have HC:=qd (build_Left b.1 n (kOf n k j) _ wr hkl hn64 hbl.blk);unfold bldP at HC;have Hm:=qd hm;clear hm hb hbl;go_wp2_with fail;refine(HC.out).mono ?_;rintro y w2 ⟨rfl,hw2⟩;have Hm2:=qd (show Below w.heap.size w w2 from by rw[←hw2];exact Hm.out.trans ((Below.refl _ _).drew.mono Hm.out.size));clear hw2;go_wp2;go_roundw
   case rel=>exact⟨j+1,by omega,by go_num,by first|go_num|(simp[sumLeft];omega),Hm2.out⟩
   case measure=>simp[intOf];omega
  ·obtain rfl:j=bl.length:=by omega
   have hlt':¬(bl.length:Int)<(bl.length:Int):=by omega
   go_wp2;go_ret;exact⟨ret_int (by have:=sumLeft_eq n k bl.length;omega),hm⟩
theorem dual_Groups (db rb cap ob og:Nat)(bbs:List Nat)(T:TabM)(n:Nat)(dep fr mv tk:Value)(hn64:n≤64)(h2:bbs.length≤2)(hgl:T.gs.length≤64)(w:World)
  (hblk:Blk w db 273 #[.pointer (some ⟨ob,0,none⟩),dep,.slice (some ⟨rb,0,none⟩) bbs.length cap,fr,mv,tk]) (hrow:RowAt w rb bbs) (hb:∀b∈bbs,∃(p:Value) (k':Nat),Blk w b 325 #[p,.int .i64 (n:Int),.int .i64 (k':Int)]) (htab:TabAt w ob og T):
  Calls Tryz.prog 144 #[dualP db] w fun e w'=>e= .returned (.int .i64 ((T.gs.length+n*bbs.length:Nat):Int))∧w=w':=by
 have HB:=qd (hblk);have HR:=qd (hrow);have HT:=qd (htab);have Hmod:=qd (Mod.refl [] w);have HBl:=qd hb;clear hblk hrow htab hb;obtain⟨g0,hg0⟩:∃g0,g0=T.gs.length:=⟨_,rfl⟩;rw[←hg0]at hgl⊢;unfold dualP;have bc:=HB.out.c6;have HG:=qd (table_Groups ob og T w HT.out);rw[←hg0]at HG;unfold tabP at HG;clear hg0;go_in;go_wp2_with fail;refine(HG.out).mono ?_;rintro y w1 ⟨rfl,rfl⟩;clear HG;go_wp2;clear bc;have HRow:=HR;clear HB HR HT Hmod;go_loopw [3,5,16] (fun v3 _ i wr=>∃j:Nat,j≤bbs.length∧i= .int .i64 j∧v3= .int .i64 ((g0+n*j:Nat):Int)∧w=wr) (fun _ _ i _=>bbs.length-(intOf i).toNat)
 case atStart=>exact⟨0,by omega,rfl,by simp,by first|exact rfl|trivial⟩
 case round=>
  obtain⟨j,hj,rfl,rfl,rfl⟩:=hrel;by_cases hlt:j<bbs.length
  ·have hlt':(j:Int)<(bbs.length:Int):=by omega
   have hj0:(0:Int)≤(j:Int):=by omega
   obtain⟨b,hb⟩:∃b,bbs[j]?=some b:=⟨_,List.getElem?_eq_getElem hlt⟩;obtain⟨p,k',hbl⟩:=HBl.out b (List.mem_of_getElem? hb);have hc:=HRow.out.at_ j b hb
   have hsl:n*j≤128:=by have:n*j≤64*2:=Nat.mul_le_mul hn64 (by omega);omega
   have hsm:n*(j+1)=n*j+n:=Nat.mul_succ _ _;have HC:=qd (build_Groups b n k' p w hbl);unfold bldP at HC;clear hb hbl;go_wp2_with fail;refine(HC.out).mono ?_;rintro y w2 ⟨rfl,rfl⟩;go_wp2;go_roundw
   case rel=>exact⟨j+1,by omega,by go_num,by first|go_num|(simp;omega),by first|exact rfl|trivial⟩
   case measure=>simp[intOf];omega
  ·obtain rfl:j=bbs.length:=by omega
   have hlt':¬(bbs.length:Int)<(bbs.length:Int):=by omega
   go_wp2;go_ret;exact⟨rfl,rfl⟩
theorem dual_Left_mov (db rb cap ob og fb fcap eb vb vcap:Nat)(bbs:List Nat)(bs:List (Nat×Nat))(T:TabM)(Ts:List TabM)(n depth next:Nat)(w:World)(h:DuM w db rb cap ob og fb fcap eb vb vcap bbs bs T Ts n depth next)(hgl:T.gs.length≤64)(hnx:next≤T.gs.length):
  Calls Tryz.prog 286 #[dualP db] w fun e w'=>e= .returned (.int .i64 ((T.gs.length-next:Nat):Int))∧w.drew=w':=by
 have bc3:=h.blk.cell 3;have bc4:=h.blk.cell 4;simp only[gl]at bc3 bc4;have HRd:=qd (dual_Ready_yes db fb bs.length fcap w bc3);have HL:=qd (evac_Left eb ob og vb vcap _ depth next T w h.ev h.tab hnx hgl);unfold dualP at HRd⊢;clear h;go_in;go_wp2_with fail;refine(HRd.out).mono ?_;rintro y w1 ⟨rfl,rfl⟩;go_wp2_with fail;refine(HL.out).mono ?_;rintro y w1 ⟨rfl,rfl⟩;go_wp2;go_ret;exact⟨rfl,rfl⟩
end
section
variable {W0 : World} {E : Nat → Addr}
def SeekPost (w:World)(P:MP)(x:Mtr)(c:Cnt)(key hash tX gX:Nat)(TX:TabM)(cnt:Nat)(e:Ending)(w':World):Prop:=
 ∃ap fp,e= .returned (.tuple #[spotV tX key hash ap (slotI (seek TX.gs key hash).1) fp (slotI (seek TX.gs key hash).2.1),.bool (seek TX.gs key hash).1.isSome])∧
  PtrOf gX (seek TX.gs key hash).1 ap∧PtrOf gX (seek TX.gs key hash).2.1 fp∧MetP w' P (x.add c cnt)∧Mod [P.mb] w w'
end
def SeekTo (w:World)(db:Nat)(P:MP)(x:Mtr)(c:Cnt)(key hash tX gX:Nat)(TX:TabM)(cnt:Nat):Prop:=
 ∀V,Below w.heap.size w V→Calls Tryz.prog 199 #[dualP db,lensV (some ⟨P.mb,P.mo,none⟩) c,.int .u64 (key:Int),.int .u64 (hash:Int)] V (SeekPost V P x c key hash tX gX TX cnt)
theorem info_ptab:(Tryz.prog.info? 182).map (fun i=>(i.zero,i.size,i.bytes))=some (some (.pointer none),1,8):=by kernel_rfl
theorem slty_ptab:SlTy Tryz.prog 270 182 1 8:=slTy Tryz.underlying270 info_ptab rfl (by decide) (by decide)
theorem ptrs_all (ts:List Nat):((ptrs ts).all fun u=>u.oneCell')=true:=by
 refine List.all_eq_true.2 fun u hu=> ?_;unfold ptrs at hu;obtain⟨t,_,rfl⟩:=List.mem_map.1 hu;rfl
theorem ptrs_length (ts:List Nat):(ptrs ts).length=ts.length:=List.length_map ..
theorem RowAt.reads {w:World}{rb:Nat}{ts:List Nat}(h:RowAt w rb ts):Reads w w.heap.size 1 (some ⟨rb,0,none⟩) ts.length (ptrs ts):=
 ⟨by rw[ptrs_length,Nat.mul_one],fun _=>⟨rb,0,rfl,h.lt,fun j u hu=>by
  unfold ptrs at hu;rw[List.getElem?_map]at hu;obtain⟨t,ht,rfl⟩:=Option.map_eq_some_iff.1 hu;rw[Nat.zero_add]
  exact h.at_ j t ht⟩⟩
section
variable {Ts : List TabM} {j : Nat} {T : TabM}
def mergeLeast (o o2:Option Ent):Option Ent:=match o2 with
 |none=>o
 |some e=>match o with
  |none=>some e
  |some b=>if lessE e b then some e else some b
def leastTs (f:Ent)(Ts:List TabM):Option Ent:=Ts.foldl (fun o T=>mergeLeast o (leastL f none (entsT T.gs))) none
def sumG (Ts:List TabM):Nat:=(Ts.map fun T=>T.gs.length).sum
end
theorem clone_tabs (rb cap:Nat)(ts:List Nat)(hn:1≤ts.length∧ts.length≤2)(w:World)(h:RowAt w rb ts):
  Calls Tryz.prog 343 #[.slice (some ⟨rb,0,none⟩) ts.length cap] w fun e w'=>∃rb' c',w.heap.size≤rb'∧e= .returned (.slice (some ⟨rb',0,none⟩) ts.length c')∧RowAt w' rb' ts∧Below w.heap.size w w':=by
 have HR:=qd h.reads;obtain⟨n1,n2⟩:=hn
 have hnn:(Go.binOp .eql 270 (.slice (some ⟨rb,0,none⟩) ts.length cap) (.slice none 0 0)).run Tryz.prog w= .ok (.bool false) w:=by first|rfl|kernel_rfl|simp[Go.binOp,go_sem]
 clear h;go_in;go_wp2_with (at_builtin;refine wpList_app rfl rfl slty_ptab (World.ownsRow_lit w #[] 0 (Nat.le_refl _) (by simp) rfl) rfl rfl (HR.out.alloc (Nat.le_refl _) _) (ptrs_all ts) (by omega) (by simp) ?_;intro v4 w4 hown4 hg4);rw[Nat.zero_add]at hown4;obtain⟨A4,c4,rfl⟩:=own_form hown4;go_ret;obtain⟨rb',rfl,hrb',hrow,_⟩:=RowAt.of_own (show w4.ownsRow w.heap.size 182 1 (.slice A4 ts.length c4) ts.length (ptrs ts)from by simpa using hown4) (by omega);have hB:Below w.heap.size w w4:=((Below.refl _ _).alloc (Nat.le_refl _) _).trans hg4.below
 first|exact⟨rb',hrb',⟨_,rfl⟩,hrow,hB⟩|exact⟨rb',_,hrb',rfl,hrow,hB⟩
theorem evac_New (tb rb cap depth:Nat)(ts:List Nat)(hn:1≤ts.length∧ts.length≤2)(hd:depth≤15)(w:World)(h:RowAt w rb ts):
  Calls Tryz.prog 340 #[.pointer (some ⟨tb,0,none⟩),.int .i64 (depth:Int),.slice (some ⟨rb,0,none⟩) ts.length cap] w fun e w'=>∃eb vb c2,w.heap.size≤eb∧w.heap.size≤vb∧eb≠vb∧e= .returned (.tuple #[.pointer (some ⟨eb,0,none⟩),.nilIface])∧EvAt w' eb tb vb c2 ts depth 0∧Below w.heap.size w w':=by
 obtain⟨n1,n2⟩:=hn;have HC:=qd (contains_nil rb cap ts n2 w h);have HK:=qd (clone_tabs rb cap ts ⟨n1,n2⟩ w h)
 have hnl:ts.length=1∨ts.length=2:=by omega
 have hd0:¬(depth:Int)<0:=by omega
 have hd1:¬(depth:Int)>15:=by omega
 clear h;obtain⟨n,hnn⟩:∃n,n=ts.length:=⟨_,rfl⟩;have HNn:=qd hnn;rw[←hnn]at HC HK hnl n1 n2;simp only[←hnn];clear hnn;rcases hnl with rfl|rfl
 all_goals
  go_in;go_wp2_with fail;refine(HC.out).mono ?_;rintro y w1 ⟨rfl,rfl⟩;go_wp2_with fail;refine(HK.out).mono ?_;rintro y w2 ⟨vb,c2,hvb,rfl,hrow,hb⟩;have hvl:=hrow.lt;have HN2:=qd (Blk.new w2 354 #[.pointer (some ⟨tb,0,none⟩),.slice (some ⟨vb,0,none⟩) ts.length c2,.int .i64 (depth:Int),.int .i64 0]);have HE:=qd (And.intro (hrow.mod (Mod.of_below ((Below.refl w2.heap.size w2).alloc (Nat.le_refl _) (.cells #[.pointer (some ⟨tb,0,none⟩),.slice (some ⟨vb,0,none⟩) ts.length c2,.int .i64 (depth:Int),.int .i64 0] 354)) []) (by simp)) (hb.alloc hb.size (.cells #[.pointer (some ⟨tb,0,none⟩),.slice (some ⟨vb,0,none⟩) ts.length c2,.int .i64 (depth:Int),.int .i64 0] 354)));rw[←HNn.out]at HN2 HE;have hbs:=hb.size;clear hrow hb;go_wp2;refine bodyPost_ret (v:= .tuple #[.pointer (some ⟨w2.heap.size,0,none⟩),.nilIface]) (by simp[results,Tryz.results340,go_sem]) rfl ?_;have hEv:EvAt (w2.alloc (.cells #[.pointer (some ⟨tb,0,none⟩),.slice (some ⟨vb,0,none⟩) _ c2,.int .i64 (depth:Int),.int .i64 0] 354)) w2.heap.size tb vb c2 ts depth 0:=⟨by rw[←HNn.out];exact HN2.out,HE.out.1⟩
  first|exact⟨w2.heap.size,vb,c2,hbs,hvb,by omega,rfl,hEv,HE.out.2⟩|exact⟨w2.heap.size,hbs,vb,hvb,by omega,rfl,c2,hEv,HE.out.2⟩
end Go.Proofs.YtfbljmcjadfkoaaGreatDoor
