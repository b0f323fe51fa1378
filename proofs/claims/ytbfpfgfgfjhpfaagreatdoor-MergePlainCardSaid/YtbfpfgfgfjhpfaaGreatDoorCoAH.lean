/- An evacuation's Step by its contract. -/
import Derived.Test.YtbfpfgfgfjhpfaaGreatDoorCoZ
import Derived.Test.YtbfpfgfgfjhpfaaGreatDoorPlA
import Derived.Test.YtbfpfgfgfjhpfaaGreatDoorCoG
import Derived.Test.YtbfpfgfgfjhpfaaGreatDoorSq
namespace Go.Proofs.YtbfpfgfgfjhpfaaGreatDoor
set_option maxRecDepth 100000
set_option maxHeartbeats 8000000
open Go.RowKit dP
theorem VT {W0:World}{E:Nat→Addr}(eb tb gb vb cap:Nat)(depth next:Nat)(bs:List (Nat×Nat))(T:aC)(Ts:List aC)(P:MP)(x:bP)(hk:1≤bs.length∧bs.length≤2)(hd:depth≤15)(w:World)
  (h:mh w eb tb vb cap (bs.map Prod.fst) depth next) (ht:TabAt w tb gb T) (hok:mO T) (hn:next<T.gs.length) (hts:iJ w bs Ts) (hfit:Fits bs.length depth Ts (bR (T.gs.getD next [])))
  (hM:aQ w P x) (hE:Env W0 E w) (hbd:∀b∈bs,b.1∉[P.mb,eb,vb,tb,gb]∧b.2∉[P.mb,eb,vb,tb,gb]) (hmd:P.mb∉[eb,vb,tb,gb]) (hed:eb∉[vb,tb,gb]) (hvd:vb∉[tb,gb])
  (hb0:W0.heap.size≤P.mb) (hb1:W0.heap.size≤tb) (hb2:W0.heap.size≤gb) (_:W0.heap.size≤eb) (hb4:∀b∈bs,W0.heap.size≤b.1∧W0.heap.size≤b.2):
  Calls Tryz.prog 268 #[.pointer (some ⟨eb,0,none⟩),.pointer (some ⟨P.mb,P.mo,none⟩)] w fun e w'=>e= .returned (.bool true)∧mh w' eb tb vb cap (bs.map Prod.fst) depth (next+1)∧TabAt w' tb gb (takeN T next 8)∧
   iJ w' bs (fA bs.length depth ((x.add (cU 1) 1).add cV 1,Ts) (bR (T.gs.getD next []))).2∧aQ w' P (fA bs.length depth ((x.add (cU 1) 1).add cV 1,Ts) (bR (T.gs.getD next []))).1∧Mod (P.mb::eb::tb::gb::gI bs) w w':=by
 simp only[List.mem_cons,List.not_mem_nil,or_false,not_or]at hmd hed hvd hbd;have hml:=hM.lt;have hB0:=hE.size;have jC:=qd (KP eb tb gb vb cap _ depth next T w h ht (by omega) hok.pow.le);have hle:=hok.pow.le
 obtain⟨dn,hdn⟩:∃dn,dn=T.gs.length-next:=⟨_,rfl⟩
 rw[←hdn]at jC
 have hd0:¬(dn:Int)=0:=by omega
 have hd1:¬dn=0:=by omega
 obtain⟨bn,hbn⟩:∃bn,bn=(bs.map Prod.fst).length:=⟨_,rfl⟩;have hbl:(bs.map Prod.fst).length=bs.length:=List.length_map ..;have xV:=qd hok
 have hbs:∀b∈bs,b.1<w.heap.size∧b.2<w.heap.size:=fun b hb=>by
  obtain⟨j,hj⟩:=List.getElem?_of_mem hb;obtain⟨hlt,_⟩:=List.getElem?_eq_some_iff.1 hj
  have hlt2:j<Ts.length:=by rw[←hts.len];exact hlt
  have:=hts.at_ j b Ts[j] hj (List.getElem?_eq_getElem hlt2);exact⟨this.aW,this.aX⟩
 obtain⟨es,hes⟩:∃es,es=bR (T.gs.getD next []):=⟨_,rfl⟩;rw[←hes]at hfit⊢;have HEs:=qd hes;clear hes;have qj:=qd hbd;have HV:=qd (h);have HT:=qd (ht);have dR:=qd (hts);have ay:=qd (hE);have HM:=qd (hM);have ah:=qd (Mod.refl (P.mb::eb::tb::gb::gI bs) w);have HF:=qd hfit;clear h ht hts hE hM hok hdn hfit;have q1:=qJ HV.out.lt (qJ HV.out.qh (qJ HT.out.aW (qJ HT.out.aX HM.out.lt)));go_in;go_upto_region 1 with fail;go_wp2_with fail;refine(jC.out).mono ?_;rintro y w1 ⟨rfl,hw1⟩;have hm:Mod [] w w1:=hw1▸Mod.drewN [] w 1;clear hw1 jC;replace HV:=qM hm HV;replace HT:=qM hm HT;replace dR:=qd (dR.out.mod hm (fun b hb=>by have hh:=hbd b hb;simp<;>omega));replace ay:=qM hm ay;replace HM:=qM hm HM;have z6:=(hm).size;replace ah:=qU ah hm;clear hm;have HU:=qd (sM P.mb P.mt P.pre P.post P.mo _ _ P.m 1 (by omega) w1 HM.out);clear HM;go_wp2_with fail;refine(HU.out).mono ?_;rintro x w2 ⟨rfl,hM2,hm⟩;replace HV:=qM hm HV;replace HT:=qM hm HT;replace dR:=qd (dR.out.mod hm (fun b hb=>by have hh:=hbd b hb;simp<;>omega));replace ay:=qM hm ay;have z7:=(hm).size;replace ah:=qU ah hm;clear hm;have HM:=qd (show aQ w2 P (x.add (cU 1) 1)from hM2);clear hM2 HU;go_upto_region 4 with fail;have hEb:=HV.out.blk;rw[←hbn]at hEb;have rW:=qd (hEb);clear hEb;have ec:=rW.out.c4;refine rT (fun(w':World)=>w'.cell? ⟨eb,0,none⟩=some (.pointer (some ⟨tb,0,none⟩))∧w'.cell? ⟨eb,3,none⟩=some (.int .i64 (next:Int))) [] ?_;have hHeld:=(⟨ec.1,ec.2.2.2⟩:_∧_);refine vW 0 rfl ?_;refine vW 1 rfl ?_;refine vW 2 rfl ?_;refine vT 3 rfl ?_
 refine vW 4 rfl ?_;refine vW 6 rfl ?_;refine vW 7 rfl ?_;refine vW 8 rfl ?_;refine vT 9 rfl ?_;refine vW 15 rfl ?_;refine nT 5 rfl fun K hK=> ?_;go_simp;refine(vY (some ⟨P.mb,P.mo,none⟩) _).mono ?_;rintro y w3 ⟨rfl,hb⟩;replace hb:Below w2.heap.size w2 w3:=bX hb (Below.refl _ _).drew;unfold aJ;clear ec;replace HV:=qB hb HV;replace HT:=qB hb HT;replace dR:=qd (dR.out.mod (Mod.of_below hb []) (by simp));replace ay:=qB hb ay;replace HM:=qB hb HM;replace rW:=qB hb rW;have z8:=(hb).size;replace ah:=qT ah hb;clear hb;have ec:=rW.out.c4;go_wp2_with fail;have hHeld:=(⟨ec.1,ec.2.2.2⟩:_∧_);refine kO hK ?_;clear hK K;refine nT 10 rfl fun K hK=> ?_;go_simp;have fZ:=qd (TH tb gb T P (x.add (cU 1) 1) cV next hn xV.out w3 HT.out HM.out ay.out (by omega) (by omega) hb0 hb1 hb2);unfold cZ aJ cV at fZ;refine(fZ.out).mono ?_;rintro y w4 ⟨A,cc,rfl,xS,Rn,Iu,hm⟩;clear fZ HT HM ec;replace HV:=qM hm HV;replace dR:=qd (dR.out.mod hm (fun b hb=>by have hh:=hbd b hb;simp<;>omega));replace ay:=qM hm ay;replace rW:=qM hm rW;have z9:=(hm).size;replace ah:=qU ah hm;have HT:=qd (Rn);have HM:=qd (Iu);have gW:=qd (xS);clear Rn Iu xS hm;have ec:=rW.out.c4;rw[←HEs.out]at gW⊢;go_wp2_with fail;have hHeld:=(⟨ec.1,ec.2.2.2⟩:_∧_);refine kO hK ?_;clear hK K;refine vW 11 rfl ?_;refine vW 12 rfl ?_;refine nT 13 rfl fun K hK=> ?_;go_simp;refine(VO A es.length cc w4).mono ?_;rintro y w5 ⟨rfl,rfl⟩;go_wp2_with fail;have hHeld:=(⟨ec.1,ec.2.2.2⟩:_∧_);refine kO hK ?_;clear hK K;refine vW 14 rfl ?_
 refine aY (by kernel_rfl) ?_ _
 have aee:es.length≤8:=by have h1:=yS (T.gs.getD next []);have h2:=xV.out.wide.at_ hn;rw[HEs.out];omega
 clear hd0 hd1;go_wp2;clear ec rW;obtain⟨st0,N8⟩:∃st0:bP×List aC,st0=((x.add (cU 1) 1).add cV 1,Ts):=⟨_,rfl⟩;go_loopw [6,7,8,29] (fun _ _ _ i wr=>∃j:Nat,j≤es.length∧i= .int .i64 j∧mh wr eb tb vb cap (bs.map Prod.fst) depth next∧TabAt wr tb gb (takeN T next 8)∧iJ wr bs (fA bs.length depth st0 (es.take j)).2∧aQ wr P (fA bs.length depth st0 (es.take j)).1∧Env W0 E wr∧wr.ownsRow w3.heap.size 76 3 (.slice A es.length cc) es.length (es.flatMap aG)∧Mod (P.mb::eb::tb::gb::gI bs) w wr) (fun _ _ _ i _=>es.length-(intOf i).toNat)
 case atStart=>exact⟨0,by omega,rfl,HV.out,HT.out,by rw[N8];exact dR.out,by rw[N8];exact HM.out,ay.out,gW.out,ah.out⟩
 case round=>
  clear HV HT dR HM ay gW ah;obtain⟨j,hj,rfl,hV,hT,hTs,hM,hE,xS,hm⟩:=hrel;by_cases hlt:j<es.length
  ·have hlt':(j:Int)<(es.length:Int):=by omega
   have hj0:(0:Int)≤(j:Int):=by omega
   obtain⟨e,he⟩:∃e,es[j]?=some e:=⟨_,List.getElem?_eq_getElem hlt⟩;obtain⟨g,rfl,hgb,k0,k1,k2,hjn⟩:=KN xS he;have eG:=qd (TF bs.length depth st0 he);obtain⟨T1,hT1,hcp⟩:=Rq (x:=(x.add (cU 1) 1).add cV 1) HF.out he;rw[←N8]at hT1;clear he hjn;obtain⟨st,hst⟩:∃st,st=fA bs.length depth st0 (es.take j):=⟨_,rfl⟩;rw[←hst]at hTs hM eG hT1;clear hst;obtain⟨sd,hsd⟩:∃sd,sd=dG bs.length depth e.hash:=⟨_,rfl⟩;have HSd:=qd hsd;rw[←hsd]at hT1;clear hsd;obtain⟨b,hb⟩:∃b,bs[sd]?=some b:=⟨_,List.getElem?_eq_getElem (by rw[hTs.len];exact(List.getElem?_eq_some_iff.1 hT1).1)⟩;have pq:=List.mem_of_getElem? hb;have hbb:=hbd b pq;have afN:=hbs b pq;have afO:=hb4 b pq;have FE:=qd hb;have HT1:=qd hT1;have oq:=qd hcp;clear hb hT1 hcp;have HV:=qd (hV);have HT:=qd (hT);have dR:=qd (hTs);have HM:=qd (hM);have ay:=qd (hE);have gW:=qd (xS);have ah:=qd (hm);clear hV hT hTs hM hE xS hm;have Rs:=qd (fun(V:World) (hV:mh V eb tb vb cap (bs.map Prod.fst) depth next)=>FD eb tb vb cap (bs.map Prod.fst) depth next e.hash b.1 (by rw[List.length_map];exact hk) hd oq.out.h64 (by rw[List.length_map,←HSd.out,List.getElem?_map,FE.out];rfl) V hV);unfold cZ at Rs;go_upto_region 7 with fail;have q1:=qJ HV.out.lt (qJ HV.out.qh (qJ HT.out.aW (qJ HT.out.aX (qJ HM.out.lt ah.out.size))));refine eB 76 #[.int .u64 (e.key:Int),.int .u64 (e.val:Int),.int .u64 (e.hash:Int)] ?_;rintro w6 ⟨hnew,hb⟩;obtain⟨xb,hxb⟩:∃xb,xb=wr.heap.size:=⟨_,rfl⟩;rw[←hxb]at hnew⊢
   replace hxb:wr.heap.size≤xb:=by omega
   clear k0 k1 k2;replace HV:=qB hb HV;replace HT:=qB hb HT;replace dR:=qd (dR.out.mod (Mod.of_below hb []) (by simp));replace HM:=qB hb HM;replace ay:=qB hb ay;replace gW:=qB hb gW;have z7:=(hb).size;replace ah:=qT ah hb;have HX:=qd (hnew);clear hnew hb;have xc:=HX.out.c3;obtain⟨i,s,hfr⟩:=oq.out.free;have Ir:=qd hfr;clear hfr;refine rT (fun(w':World)=>w'.cell? ⟨xb,0,none⟩=some (.int .u64 (e.key:Int))∧w'.cell? ⟨xb,1,none⟩=some (.int .u64 (e.val:Int))∧w'.cell? ⟨xb,2,none⟩=some (.int .u64 (e.hash:Int))) [] ?_;have hHeld:=(⟨xc.1,xc.2.1,xc.2.2⟩:_∧_∧_);refine vW 0 rfl ?_;refine vW 1 rfl ?_;refine vT 2 rfl ?_;refine vW 4 rfl ?_;refine vT 6 rfl ?_;refine nT 3 rfl fun K hK=> ?_;go_simp;refine(Rs.out _ (HV.out.mod (Mod.drewN [] w6 1) (by simp) (by simp))).mono ?_;rintro y w7 ⟨rfl,hb⟩;replace hb:Below w6.heap.size w6 w7:=bX hb (Below.refl _ _).drew;clear xc;replace HV:=qB hb HV;replace HT:=qB hb HT;replace dR:=qd (dR.out.mod (Mod.of_below hb []) (by simp));replace HM:=qB hb HM;replace ay:=qB hb ay;replace gW:=qB hb gW;replace HX:=qB hb HX;have z8:=(hb).size;replace ah:=qT ah hb;clear hb;have xc:=HX.out.c3;go_wp2_with fail;have hHeld:=(⟨xc.1,xc.2.1,xc.2.2⟩:_∧_∧_);refine kO hK ?_;clear hK K;refine nT 5 rfl fun K hK=> ?_;go_simp;refine(vY (some ⟨P.mb,P.mo,none⟩) _).mono ?_;rintro y w8 ⟨rfl,hb⟩;unfold aJ;clear xc;replace HV:=qB hb HV;replace HT:=qB hb HT;replace dR:=qd (dR.out.mod (Mod.of_below hb []) (by simp));replace HM:=qB hb HM;replace ay:=qB hb ay;replace gW:=qB hb gW
   replace HX:=qB hb HX;have z9:=(hb).size;replace ah:=qT ah hb;clear hb;have xc:=HX.out.c3;go_wp2_with fail;have hHeld:=(⟨xc.1,xc.2.1,xc.2.2⟩:_∧_∧_);refine kO hK ?_;clear hK K;refine nT 7 rfl fun K hK=> ?_;go_simp;have pz:=qd (Me b.1 b.2 T1 P.mb P.mt P.pre P.post P.mo st.1.all st.1.last P.m cV e w8 (dR.out.at_ sd b T1 FE.out HT1.out) oq.out.ok.pow oq.out.h64 HM.out (by omega) (by omega) ay.out.tz (by have:=ay.out.YS;omega) oq.out.none_ i s Ir.out oq.out.ok.small oq.out.room);unfold cZ aJ aR cV at pz;refine(pz.out).mono ?_;rintro y w9 ⟨rfl,hT9,hM9,hm⟩;clear pz HM;have acs:=dR.out.ak FE.out hT9 hm (by intro q hq;simp at hq;rcases hq with rfl|rfl|rfl;exact .inr (.inr (fun c hc=>by have:=hbd c hc;omega));exact .inl rfl;exact .inr (.inl rfl));clear dR hT9;have hm0:Mod (P.mb::eb::tb::gb::gI bs) w8 w9:=hm.more (by intro q hq;simp at hq;rcases hq with rfl|rfl|rfl;simp;simp[dV];exact .inr (.inr (.inr (.inr ⟨_,_,pq,.inl rfl⟩)));simp[dV];exact .inr (.inr (.inr (.inr ⟨_,_,pq,.inr rfl⟩))));have VU:=ah;clear ah;have ah:=qd (Mod.refl [P.mb,b.1,b.2] w8);clear xc;replace HV:=qM hm HV;replace HT:=qM hm HT;replace ay:=qM hm ay;replace gW:=qM hm gW;replace HX:=qM hm HX;have z10:=(hm).size;replace ah:=qU ah hm;clear ah;have ah:=qd (VU.out.then hm0);clear VU hm0 hm;have dR:=qd (acs);have HM:=qd (show aQ w9 P (st.1.add cV (aH T1.gs e.key e.hash).2.2)from hM9);clear acs hM9;have xc:=HX.out.c3;go_wp2_with fail;have hHeld:=(⟨xc.1,xc.2.1,xc.2.2⟩:_∧_∧_);refine kO hK ?_;clear hK K;refine vW 8 rfl ?_
   refine vW 9 rfl ?_;refine vW 10 rfl ?_;refine vW 11 rfl ?_;refine vW 12 rfl ?_;refine aY (by kernel_rfl) ?_ _
   have hgd:st.2.getD sd noT=T1:=by rw[List.getD_eq_getElem?_getD,HT1.out];rfl
   have gT:=qd (show fA bs.length depth st0 (es.take (j+1))=(st.1.add cV (aH T1.gs e.key e.hash).2.2,st.2.set sd (jM T1 i s e))from by rw[eG.out];unfold uH;rw[←HSd.out,hgd];unfold DF;rw[Ir.out]);clear hgd;have ug:=qd (DC w9);go_wp2_with fail;refine(ug.out).mono ?_;rintro y w10 ⟨rfl,rfl⟩;clear xc;go_wp2;go_roundw
   case rel=>exact⟨j+1,by omega,by go_num,HV.out,HT.out,by rw[gT.out];exact dR.out,by rw[gT.out];exact HM.out,ay.out,gW.out,ah.out⟩
   case measure=>simp[intOf];omega
  ·obtain rfl:j=es.length:=by omega
   have hlt':¬(es.length:Int)<(es.length:Int):=by omega
   rw[List.take_length]at hTs hM;have rW:=qd (hV.blk);have HW:=qd (hV.row);have HT:=qd (hT);have dR:=qd (hTs);have HM:=qd (hM);have ah:=qd (hm);clear hV hT hTs hM hE xS hm;have q1:=qJ rW.out.lt (qJ HW.out.lt (qJ HT.out.aW (qJ HT.out.aX HM.out.lt)));have ec:=rW.out.c4;have ef:=rW.out.f4;go_upto_region 11 with fail;have q6:=qJ rW.out.lt (qJ HW.out.lt (qJ HT.out.aW (qJ HT.out.aX HM.out.lt)));refine Hy rW.out ?_;rintro w11 ⟨hnew,hm⟩;simp only[pt]at hnew;clear ec ef;replace HW:=qM hm HW;replace HT:=qM hm HT;replace dR:=qd (dR.out.mod hm (fun b hb=>by have hh:=hbd b hb;simp<;>omega));replace HM:=qM hm HM;have z11:=(hm).size;replace ah:=qU ah hm;replace rW:=qd hnew;clear hnew hm;go_wp2;go_ret;exact⟨rfl,⟨rW.out,HW.out⟩,HT.out,by rw[←N8];exact dR.out,by rw[←N8];exact HM.out,ah.out⟩
section
def ql (n k i:Nat):Nat:=min n (k-i*n)
def bI (db rb ob og:Nat)(bl:List (Nat×Nat×Nat)):List Nat:=db::rb::ob::og::bl.flatMap fun b=> [b.1,b.2.1,b.2.2]
structure vB (w:World)(db rb cap ob og:Nat)(bl:List (Nat×Nat×Nat))(T:aC)(n depth k:Nat):Prop where
 blk:aj w db 281 #[.pointer (some ⟨ob,0,none⟩),.int .i64 (depth:Int),.slice (some ⟨rb,0,none⟩) bl.length cap,.slice none 0 0,.pointer none,.bool false]
 row:fQ w rb (bl.map fun b=>b.1)
 qx:∀(i:Nat) (b:Nat×Nat×Nat),bl[i]?=some b→gy w b.1 b.2.1 b.2.2 n (ql n k i)
 tab:TabAt w ob og T
 pow:Pw n
 many:1≤bl.length∧bl.length≤2
 lt:k<n*bl.length
 deep:depth≤15
 nd:(bI db rb ob og bl).Nodup
def aT (db rb fb eb vb ob og:Nat)(bL:List Nat)(bs:List (Nat×Nat)):List Nat:=db::rb::fb::eb::vb::ob::og::(bL++gI bs)
structure pE (w:World)(db rb cap ob og fb bY eb vb cB:Nat)(bL:List Nat)(bs:List (Nat×Nat))(T:aC)(Ts:List aC)(n depth next:Nat):Prop where
 blk:aj w db 281 #[.pointer (some ⟨ob,0,none⟩),.int .i64 (depth:Int),.slice (some ⟨rb,0,none⟩) bL.length cap,.slice (some ⟨fb,0,none⟩) bs.length bY,.pointer (some ⟨eb,0,none⟩),.bool false]
 row:fQ w rb bL
 qx:∀b∈bL,aj w b 315 #[.pointer none,.int .i64 (n:Int),.int .i64 (n:Int)]
 fresh:fQ w fb (bs.map Prod.fst)
 ev:mh w eb ob vb cB (bs.map Prod.fst) depth next
 tab:TabAt w ob og T
 tabs:iJ w bs Ts
 pow:Pw n
 many:1≤bs.length∧bs.length≤2
 eq:bL.length=bs.length
 deep:depth≤15
 nd:(aT db rb fb eb vb ob og bL bs).Nodup
section
variable {w w' : World} {db rb cap ob og fb bY eb vb cB : Nat} {bl : List (Nat × Nat × Nat)} {bL : List Nat} {bs : List (Nat × Nat)} {T : aC} {Ts : List aC} {n depth k next : Nat}
theorem vD {b:Nat×Nat×Nat}(h:b∈bl):b.1∈bI db rb ob og bl∧b.2.1∈bI db rb ob og bl∧b.2.2∈bI db rb ob og bl:=by
 have h0:∀q∈[b.1,b.2.1,b.2.2],q∈bl.flatMap fun b=> [b.1,b.2.1,b.2.2]:=fun q hq=>List.mem_flatMap.2 ⟨b,h,hq⟩;have h1:=h0 b.1 (by simp);have h2:=h0 b.2.1 (by simp);have h3:=h0 b.2.2 (by simp);unfold bI;simp only[List.mem_cons];exact⟨.inr (.inr (.inr (.inr h1))),.inr (.inr (.inr (.inr h2))),.inr (.inr (.inr (.inr h3)))⟩
theorem vB.mod {S:List Nat}(h:vB w db rb cap ob og bl T n depth k)(hm:Mod S w w')(hs:∀q∈bI db rb ob og bl,q∉S):vB w' db rb cap ob og bl T n depth k:=
 ⟨h.blk.mod hm (hs _ (by simp[bI])),h.row.mod hm (hs _ (by simp[bI])),fun i b hb=>by
  obtain⟨h1,h2,h3⟩:=vD (db:=db) (rb:=rb) (ob:=ob) (og:=og) (List.mem_of_getElem? hb)
  exact(h.qx i b hb).mod hm (hs _ h1) (hs _ h2) (hs _ h3),
  h.tab.mod hm (hs _ (by simp[bI])) (hs _ (by simp[bI])),h.pow,h.many,h.lt,h.deep,h.nd⟩
theorem pE.mod {S:List Nat}(h:pE w db rb cap ob og fb bY eb vb cB bL bs T Ts n depth next)(hm:Mod S w w')(hs:∀q∈aT db rb fb eb vb ob og bL bs,q∉S):pE w' db rb cap ob og fb bY eb vb cB bL bs T Ts n depth next:=
 ⟨h.blk.mod hm (hs _ (by simp[aT])),h.row.mod hm (hs _ (by simp[aT])),fun b hb=>(h.qx b hb).mod hm (hs _ (by unfold aT;simp[hb])),h.fresh.mod hm (hs _ (by simp[aT])),
  h.ev.mod hm (hs _ (by simp[aT])) (hs _ (by simp[aT])),h.tab.mod hm (hs _ (by simp[aT])) (hs _ (by simp[aT])),
  h.tabs.mod hm (fun b hb=>⟨hs _ (by unfold aT;simp[dV];exact .inr (.inr (.inr (.inr (.inr (.inr (.inr (.inr ⟨_,_,hb,.inl rfl⟩)))))))),hs _ (by unfold aT;simp[dV];exact .inr (.inr (.inr (.inr (.inr (.inr (.inr (.inr ⟨_,_,hb,.inr rfl⟩))))))))⟩),h.pow,h.many,h.eq,h.deep,h.nd⟩
end
def dA (db:Nat):Value:= .pointer (some ⟨db,0,none⟩)
def rX (n k:Nat):Nat→Nat
 |0=>0
 |j+1=>rX n k j+(n-ql n k j)
theorem BJ (n k:Nat):∀j,rX n k j=n*j-min k (n*j)
 |0=>by simp[rX]
 |j+1=>by
  have h1:=BJ n k j;unfold rX ql;rw[h1,Nat.mul_comm j n,Nat.mul_succ];generalize n*j=m;omega
theorem wh (db:Nat)(w:World)(h:w.cell? ⟨db,3,none⟩=some (.slice none 0 0)):
  Calls Tryz.prog 178 #[dA db] w fun e w'=>e= .returned (.bool false)∧w=w':=by
 unfold dA;go_in;go_wp2;go_ret;exact⟨rfl,rfl⟩
theorem uI (db fb fn bY:Nat)(w:World)(h:w.cell? ⟨db,3,none⟩=some (.slice (some ⟨fb,0,none⟩) fn bY)):
  Calls Tryz.prog 178 #[dA db] w fun e w'=>e= .returned (.bool true)∧w=w':=by
 unfold dA;go_in;go_wp2;go_ret;exact⟨rfl,rfl⟩
theorem Mi (db rb cap ob og:Nat)(bl:List (Nat×Nat×Nat))(T:aC)(n depth k:Nat)(w:World)(h:vB w db rb cap ob og bl T n depth k)(hgl:T.gs.length≤64):
  Calls Tryz.prog 226 #[dA db] w fun e w'=>e= .returned (.int .i64 ((T.gs.length+(n*bl.length-k):Nat):Int))∧Below w.heap.size w w':=by
 have afP:=h.lt;have HB:=qd (h.blk);have HR:=qd (h.row);have HT:=qd (h.tab);have ah:=qd (Mod.refl [] w);obtain⟨many1,ae8⟩:=h.many;have DI:=qd (show∀V,Below w.heap.size w V→∀(i:Nat) (b:Nat×Nat×Nat),bl[i]?=some b→gy V b.1 b.2.1 b.2.2 n (ql n k i)from fun V hV i b hb=>(h.qx i b hb).mod (Mod.of_below hV []) (by simp) (by simp) (by simp));have YG:=h.pow.le;clear h;obtain⟨g0,hg0⟩:∃g0,g0=T.gs.length:=⟨_,rfl⟩;rw[←hg0]at hgl⊢;unfold dA;have bc:=HB.out.c6;have kY:=qd (wh db w bc.2.2.2.1);unfold dA at kY;have HG:=qd (sN ob og T w HT.out);rw[←hg0]at HG;unfold cZ at HG;clear hg0;go_in;go_wp2_with fail;refine(kY.out).mono ?_;rintro y w1 ⟨rfl,rfl⟩;clear kY;go_wp2_with fail;refine(HG.out).mono ?_;rintro y w1 ⟨rfl,rfl⟩;clear HG;go_wp2;clear bc;have aeg:=HR;clear HB HR HT ah;go_loopw [3,5,23] (fun v3 _ i wr=>∃j:Nat,j≤bl.length∧i= .int .i64 j∧v3= .int .i64 ((g0+rX n k j:Nat):Int)∧Below w.heap.size w wr) (fun _ _ i _=>bl.length-(intOf i).toNat)
 case atStart=>exact⟨0,by omega,rfl,by simp[rX],Below.refl _ _⟩
 case round=>
  obtain⟨j,hj,rfl,rfl,hm⟩:=hrel;by_cases hlt:j<bl.length
  ·have hlt':(j:Int)<(bl.length:Int):=by omega
   have hj0:(0:Int)≤(j:Int):=by omega
   obtain⟨b,hb⟩:∃b,bl[j]?=some b:=⟨_,List.getElem?_eq_getElem hlt⟩;have hbl:=DI.out wr hm j b hb;have hc:=(aeg.out.mod (Mod.of_below hm []) (by simp)).at_ j b.1 (by rw[List.getElem?_map,hb];rfl);have hkl:ql n k j≤n:=Nat.min_le_left _ _
   have hsl:rX n k j≤128:=by rw[BJ];have:n*j≤64*2:=Nat.mul_le_mul YG (by omega);omega
   have HC:=qd (sQ b.1 n (ql n k j) _ wr hkl YG hbl.blk);unfold oG at HC;have Hm:=qd hm;clear hm hb hbl;go_wp2_with fail;refine(HC.out).mono ?_;rintro y w2 ⟨rfl,hw2⟩;have VK:=qd (show Below w.heap.size w w2 from by rw[←hw2];exact Hm.out.trans ((Below.refl _ _).drew.mono Hm.out.size));clear hw2;go_wp2;go_roundw
   case rel=>exact⟨j+1,by omega,by go_num,by first|go_num|(simp[rX];omega),VK.out⟩
   case measure=>simp[intOf];omega
  ·obtain rfl:j=bl.length:=by omega
   have hlt':¬(bl.length:Int)<(bl.length:Int):=by omega
   go_wp2;go_ret;exact⟨iG (by have:=BJ n k bl.length;omega),hm⟩
theorem qW (db rb cap ob og fb bY eb vb cB:Nat)(bL:List Nat)(bs:List (Nat×Nat))(T:aC)(Ts:List aC)(n depth next:Nat)(w:World)(h:pE w db rb cap ob og fb bY eb vb cB bL bs T Ts n depth next)(hgl:T.gs.length≤64)(hnx:next≤T.gs.length):
  Calls Tryz.prog 226 #[dA db] w fun e w'=>e= .returned (.int .i64 ((T.gs.length-next:Nat):Int))∧w.drew=w':=by
 have bc3:=h.blk.cell 3;have bc4:=h.blk.cell 4;simp only[gl]at bc3 bc4;have kY:=qd (uI db fb bs.length bY w bc3);have HL:=qd (KP eb ob og vb cB _ depth next T w h.ev h.tab hnx hgl);unfold dA at kY⊢;clear h;go_in;go_wp2_with fail;refine(kY.out).mono ?_;rintro y w1 ⟨rfl,rfl⟩;go_wp2_with fail;refine(HL.out).mono ?_;rintro y w1 ⟨rfl,rfl⟩;go_wp2;go_ret;exact⟨rfl,rfl⟩
end
end Go.Proofs.YtbfpfgfgfjhpfaaGreatDoor
