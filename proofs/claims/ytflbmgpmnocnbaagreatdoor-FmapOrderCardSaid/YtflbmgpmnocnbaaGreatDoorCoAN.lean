/- A dual's Least by its contract. -/
import Derived.Test.YtflbmgpmnocnbaaGreatDoorCoAK
import Derived.Test.YtflbmgpmnocnbaaGreatDoorSqT
import Derived.Test.YtflbmgpmnocnbaaGreatDoorLaneP
namespace Go.Proofs.YtflbmgpmnocnbaaGreatDoor
set_option maxRecDepth 100000
set_option maxHeartbeats 8000000
open Go.RowKit AmC
section
variable {Ts : List TabM} {j : Nat} {T : TabM}
def mergeLeast (o o2:Option Ent):Option Ent:=match o2 with
 |none=>o
 |some e=>match o with
  |none=>some e
  |some b=>if lessE e b then some e else some b
def leastTs (f:Ent)(Ts:List TabM):Option Ent:=Ts.foldl (fun o T=>mergeLeast o (leastL f none (entsT T.gs))) none
theorem leastTs_snoc (f:Ent)(h:Ts[j]?=some T):leastTs f (Ts.take (j+1))=mergeLeast (leastTs f (Ts.take j)) (leastL f none (entsT T.gs)):=by
 unfold leastTs;rw[take_nx h,List.foldl_append];rfl
def sumG (Ts:List TabM):Nat:=(Ts.map fun T=>T.gs.length).sum
theorem sumG_snoc (h:Ts[j]?=some T):sumG (Ts.take (j+1))=sumG (Ts.take j)+T.gs.length:=by
 unfold sumG;rw[take_nx h,List.map_append,List.sum_append];simp
theorem dual_Least {W0:World}{E:Nat→Addr}(db ob cap:Nat)(A:Option Addr)(fr:List Nat)(hl2:fr.length≤2)(dep bls mv tk:Value)(bs:List (Nat×Nat))(Ts:List TabM)(P:MP)(x:Mtr)(c:Cnt)(hash key:Nat)(w:World)(hblk:Blk w db 277 #[.pointer (some ⟨ob,0,none⟩),dep,bls,.slice A fr.length cap,mv,tk])(hrd:Reads w w.heap.size 1 A fr.length (ptrs fr))(hbs:bs.map Prod.fst=fr++[ob])(hts:TabsAt w bs Ts)(hg64:∀T∈Ts,T.gs.length≤64)(hM:MetP w P x)(hE:Env W0 E w)(hb0:W0.heap.size≤P.mb)(hbd:∀b∈bs,P.mb≠b.1∧P.mb≠b.2):
  Calls Tryz.prog 199 #[dualP db,lensV (some ⟨P.mb,P.mo,none⟩) c,.int .u64 (hash:Int),.int .u64 (key:Int)] w fun e w'=>e= .returned (optE (leastTs ⟨key,0,hash⟩ Ts))∧MetP w' P (x.add c (sumG Ts))∧Mod [P.mb] w w':=by
 obtain⟨fr0,hfr⟩:∃fr0:Ent,fr0=⟨key,0,hash⟩:=⟨_,rfl⟩;rw[←hfr];have HFR:=qd hfr;clear hfr
 have hbl:bs.length=fr.length+1:=by have:=congrArg List.length hbs;simpa using this
 have htl2:=hts.len;obtain⟨W,hW,hB,hL,hR,hO⟩:=qX3 w 123 #[.pointer (some ⟨P.mb,P.mo,none⟩),.int .i64 c.p,.int .i64 c.v,.int .i64 c.u] 126 #[.int .u64 0,.int .u64 0,.int .u64 0] 126 #[.int .u64 0,.int .u64 0,.int .u64 0];have hml:=hM.lt;have hB0:=hE.size;have HW:=qd hW
 have hbw:∀b∈bs,b.1<w.heap.size∧b.2<w.heap.size:=fun b hb=>by
  obtain⟨j,hj⟩:=List.getElem?_of_mem hb;obtain⟨hlt,_⟩:=List.getElem?_eq_some_iff.1 hj
  have hlt2:j<Ts.length:=by rw[←hts.len];exact hlt
  have:=hts.at_ j b Ts[j] hj (List.getElem?_eq_getElem hlt2);exact⟨this.ltT,this.ltG⟩
 have HTb:=qd (dual_tables db ob cap A fr hl2 dep bls mv tk W (hblk.below hB hblk.lt) ((hrd.below hB).more hB.size));unfold dualP at HTb⊢;unfold lensV optE entV;have HTs:=qd (hts.mod (Mod.of_below hB []) (by simp));have HV0:=qd (hE.next hB);have HM:=qd (show MetP W P (x.add c (sumG (Ts.take 0)))from hM.below hB);have HL:=qd (hL);have HR:=qd (hR);have HO:=qd (show Blk W _ _ (optCells (leastTs fr0 (Ts.take 0)))from hO);have Hmod:=qd (Mod.of_below hB [P.mb]);have z1:=Hmod.out.size;obtain⟨lb,hlb⟩:∃lb,lb=w.heap.size:=⟨_,rfl⟩;obtain⟨rb,hrb⟩:∃rb,rb=w.heap.size+1:=⟨_,rfl⟩;obtain⟨ob2,hob⟩:∃ob2,ob2=w.heap.size+1+1:=⟨_,rfl⟩;clear hW hB hblk hrd hM hL hE hR hO hts;go_in;go_upto_region 3 with fail;rw[←HW.out,←hob,←hrb,←hlb];rw[←hlb]at HL;rw[←hrb]at HR;rw[←hob]at HO
 have n1:lb<rb:=by omega
 have n2:rb<ob2:=by omega
 have n4:P.mb<lb:=by omega
 have n7:W0.heap.size≤lb:=by omega
 have n8:w.heap.size≤lb:=by omega
 clear hlb hrb hob HW;have q2:=qJ HM.out.lt (qJ HL.out.lt (qJ HR.out.lt HO.out.lt));go_wp2_with fail;refine(HTb.out).mono ?_;rintro x w1 ⟨tb,tc,htb,rfl,hrow,hb⟩;replace HTs:=qd (HTs.out.mod (Mod.of_below hb []) (by simp));replace HV0:=qB hb HV0;replace HM:=qB hb HM;replace HL:=qB hb HL;replace HR:=qB hb HR;replace HO:=qB hb HO;have z6:=(hb).size;replace Hmod:=qT Hmod hb;clear hb;have HW:=qd (hrow);clear hrow HTb;have q7:=qJ HM.out.lt (qJ HL.out.lt (qJ HR.out.lt (qJ HO.out.lt HW.out.lt)));go_wp2;go_loopw [11,13,14,15,19] (fun v11 _ _ _ i wr=>∃j:Nat,j≤fr.length+1∧i= .int .i64 j∧v11= .bool (leastTs fr0 (Ts.take j)).isSome∧MetP wr P (x.add c (sumG (Ts.take j)))∧Blk wr ob2 126 (optCells (leastTs fr0 (Ts.take j)))∧TabsAt wr bs Ts∧Env W0 E wr∧Blk wr lb 123 #[.pointer (some ⟨P.mb,P.mo,none⟩),.int .i64 c.p,.int .i64 c.v,.int .i64 c.u]∧Blk wr rb 126 #[.int .u64 0,.int .u64 0,.int .u64 0]∧RowAt wr tb (fr++[ob])∧Mod [P.mb] w wr) (fun _ _ _ _ i _=>(fr.length+1)-(intOf i).toNat)
 case atStart=>exact⟨0,by omega,rfl,rfl,HM.out,HO.out,HTs.out,HV0.out,HL.out,HR.out,HW.out,Hmod.out⟩
 case round=>
  clear HM HO HTs HV0 HL HR HW Hmod;obtain⟨j,hj,rfl,rfl,hM,hO,hTs,hE,hL,hR,hW,hm⟩:=hrel;by_cases hlt:j<fr.length+1
  ·have hlt':(j:Int)<((fr.length:Int)+1):=by omega
   have hj0:(0:Int)≤(j:Int):=by omega
   obtain⟨b,hb⟩:∃b,bs[j]?=some b:=⟨_,List.getElem?_eq_getElem (by omega)⟩;obtain⟨T,hT⟩:∃T,Ts[j]?=some T:=⟨_,List.getElem?_eq_getElem (by omega)⟩;have hbm:=List.mem_of_getElem? hb;have hbb:=hbd b hbm;have hrw:=hW.at_ j b.1 (by rw[←hbs,List.getElem?_map,hb];rfl);have h64:=hg64 T (List.mem_of_getElem? hT);have HSn:=qd (leastTs_snoc fr0 hT);have HSm:=qd (sumG_snoc hT);have HBi:=qd hb;have HTi:=qd hT;clear hb hT;have HTs:=qd (hTs);have HM:=qd (hM);have HV0:=qd (hE);have HO:=qd (hO);have HL:=qd (hL);have HR:=qd (hR);have HW:=qd (hW);have Hmod:=qd (hm);clear hM hO hTs hE hL hR hW hm;obtain⟨o,ho⟩:∃o,o=leastTs fr0 (Ts.take j):=⟨_,rfl⟩;rw[←ho]at HO HSn⊢;clear ho;have HLe:=qd (table_Least b.1 b.2 T P (x.add c (sumG (Ts.take j))) c hash key h64 wr (HTs.out.at_ j b T HBi.out HTi.out) HM.out HV0.out hbb.1 hbb.2 hb0);rw[←HFR.out]at HLe;obtain⟨p,hp⟩:∃p,p=leastL fr0 none (entsT T.gs):=⟨_,rfl⟩;rw[←hp]at HLe HSn;clear hp;unfold tabP lensV optE entV at HLe;go_upto_region 6 with fail;have lc:=HL.out.c4;go_wp2_with fail;refine(HLe.out).mono ?_;rintro x w2 ⟨rfl,hM1,hm⟩;clear hrw lc;replace HTs:=qd (HTs.out.mod hm (fun b hb=>by have hh:=hbd b hb;have hh2:=hbw b hb;simp<;>omega));replace HV0:=qM hm HV0;replace HO:=qM hm HO;replace HL:=qM hm HL;replace HR:=qM hm HR;replace HW:=qM hm HW;have z1:=(hm).size;replace Hmod:=qU Hmod hm;clear hm HM HLe;have HM:=qd (show MetP w2 P (x.add c (sumG (Ts.take (j+1))))from by rw[HSm.out,←Mtr.add_add];exact hM1);clear hM1;go_upto_region 7 with fail
   cases p with
   |none=>
    have q901:=qJ HO.out.lt (qJ HL.out.lt (qJ HR.out.lt (qJ HW.out.lt (qJ HM.out.lt Hmod.out.size))));refine nameB 126 #[.int .u64 0,.int .u64 0,.int .u64 0] ?_;rintro w3 ⟨hnew,hb⟩;obtain⟨xb,hxb⟩:∃xb,xb=w2.heap.size:=⟨_,rfl⟩;rw[←hxb]at hnew⊢
    replace hxb:w2.heap.size≤xb:=by omega
    replace HTs:=qd (HTs.out.mod (Mod.of_below hb []) (by simp));replace HV0:=qB hb HV0;replace HO:=qB hb HO;replace HL:=qB hb HL;replace HR:=qB hb HR;replace HW:=qB hb HW;replace HM:=qB hb HM;have z907:=(hb).size;replace Hmod:=qT Hmod hb;have HX:=qd (hnew);clear hnew hb;replace HSn:=qd (show leastTs fr0 (Ts.take (j+1))=o from HSn.out);go_wp2;go_roundw
    case rel=>exact⟨j+1,by omega,by go_num,by rw[HSn.out]<;>rfl,HM.out,by rw[HSn.out];exact HO.out,HTs.out,HV0.out,HL.out,HR.out,HW.out,Hmod.out⟩
    case measure=>simp[intOf];omega
   |some e=>
    cases o with
    |none=>
     have q901:=qJ HO.out.lt (qJ HL.out.lt (qJ HR.out.lt (qJ HW.out.lt (qJ HM.out.lt Hmod.out.size))));refine nameB 126 #[.int .u64 ((e).key:Int),.int .u64 ((e).val:Int),.int .u64 ((e).hash:Int)] ?_;rintro w3 ⟨hnew,hb⟩;obtain⟨xb,hxb⟩:∃xb,xb=w2.heap.size:=⟨_,rfl⟩;rw[←hxb]at hnew⊢
     replace hxb:w2.heap.size≤xb:=by omega
     replace HTs:=qd (HTs.out.mod (Mod.of_below hb []) (by simp));replace HV0:=qB hb HV0;replace HO:=qB hb HO;replace HL:=qB hb HL;replace HR:=qB hb HR;replace HW:=qB hb HW;replace HM:=qB hb HM;have z907:=(hb).size;replace Hmod:=qT Hmod hb;have HX:=qd (hnew);clear hnew hb;replace HO:=qd (show Blk w3 ob2 126 #[.int .u64 0,.int .u64 0,.int .u64 0]from HO.out);replace HSn:=qd (show leastTs fr0 (Ts.take (j+1))=some e from HSn.out);have xc:=HX.out.c3;have oc:=HO.out.c3;have of:=HO.out.f3;go_upto_region 9 with fail;have q908:=qJ HO.out.lt (qJ HL.out.lt (qJ HR.out.lt (qJ HW.out.lt (qJ HM.out.lt HX.out.lt))));refine qS3 HO.out ?_;rintro w6 ⟨hnew,hm⟩;simp only[pt]at hnew;replace HTs:=qd (HTs.out.mod hm (fun b hb=>by have hh:=hbd b hb;have hh2:=hbw b hb;simp<;>omega));replace HV0:=qM hm HV0;replace HL:=qM hm HL;replace HR:=qM hm HR;replace HW:=qM hm HW;replace HM:=qM hm HM;replace HX:=qM hm HX;have z914:=(hm).size;replace Hmod:=qU Hmod hm;replace HO:=qd hnew;clear hnew hm;go_wp2;go_roundw
     case rel=>exact⟨j+1,by omega,by go_num,by rw[HSn.out]<;>rfl,HM.out,by rw[HSn.out];exact HO.out,HTs.out,HV0.out,HL.out,HR.out,HW.out,Hmod.out⟩
     case measure=>simp[intOf];omega
    |some b2=>
     cases hlb:lessE e b2 with
     |true=>
      have q901:=qJ HO.out.lt (qJ HL.out.lt (qJ HR.out.lt (qJ HW.out.lt (qJ HM.out.lt Hmod.out.size))));refine nameB 126 #[.int .u64 ((e).key:Int),.int .u64 ((e).val:Int),.int .u64 ((e).hash:Int)] ?_;rintro w3 ⟨hnew,hb⟩;obtain⟨xb,hxb⟩:∃xb,xb=w2.heap.size:=⟨_,rfl⟩;rw[←hxb]at hnew⊢
      replace hxb:w2.heap.size≤xb:=by omega
      replace HTs:=qd (HTs.out.mod (Mod.of_below hb []) (by simp));replace HV0:=qB hb HV0;replace HO:=qB hb HO;replace HL:=qB hb HL;replace HR:=qB hb HR;replace HW:=qB hb HW;replace HM:=qB hb HM;have z907:=(hb).size;replace Hmod:=qT Hmod hb;have HX:=qd (hnew);clear hnew hb;replace HO:=qd (show Blk w3 ob2 126 #[.int .u64 ((b2).key:Int),.int .u64 ((b2).val:Int),.int .u64 ((b2).hash:Int)]from HO.out);have HSx:=qd (show leastTs fr0 (Ts.take (j+1))=some e from by rw[HSn.out];show(if lessE e b2 then some e else some b2)=_;rw[hlb];rfl);clear HSn;have HSn:=HSx;clear HSx;have HLb:=qd (fun V:World=>split_Less e b2 V);rw[hlb]at HLb;unfold entV at HLb;clear hlb;have xc:=HX.out.c3;have oc:=HO.out.c3;go_wp2_with fail;refine((HLb.out w3)).mono ?_;rintro x w5 ⟨rfl,hb⟩;clear xc oc;replace HTs:=qd (HTs.out.mod (Mod.of_below hb []) (by simp));replace HV0:=qB hb HV0;replace HO:=qB hb HO;replace HL:=qB hb HL;replace HR:=qB hb HR;replace HW:=qB hb HW;replace HM:=qB hb HM;replace HX:=qB hb HX;have z908:=(hb).size;replace Hmod:=qT Hmod hb;clear hb;have xc:=HX.out.c3;have oc:=HO.out.c3;have of:=HO.out.f3;go_upto_region 9 with fail;have q909:=qJ HO.out.lt (qJ HL.out.lt (qJ HR.out.lt (qJ HW.out.lt (qJ HM.out.lt HX.out.lt))));refine qS3 HO.out ?_;rintro w6 ⟨hnew,hm⟩;simp only[pt]at hnew;replace HTs:=qd (HTs.out.mod hm (fun b hb=>by have hh:=hbd b hb;have hh2:=hbw b hb;simp<;>omega));replace HV0:=qM hm HV0;replace HL:=qM hm HL;replace HR:=qM hm HR;replace HW:=qM hm HW;replace HM:=qM hm HM
      replace HX:=qM hm HX;have z915:=(hm).size;replace Hmod:=qU Hmod hm;replace HO:=qd hnew;clear hnew hm;go_wp2;go_roundw
      case rel=>exact⟨j+1,by omega,by go_num,by rw[HSn.out]<;>rfl,HM.out,by rw[HSn.out];exact HO.out,HTs.out,HV0.out,HL.out,HR.out,HW.out,Hmod.out⟩
      case measure=>simp[intOf];omega
     |false=>
      have q901:=qJ HO.out.lt (qJ HL.out.lt (qJ HR.out.lt (qJ HW.out.lt (qJ HM.out.lt Hmod.out.size))));refine nameB 126 #[.int .u64 ((e).key:Int),.int .u64 ((e).val:Int),.int .u64 ((e).hash:Int)] ?_;rintro w3 ⟨hnew,hb⟩;obtain⟨xb,hxb⟩:∃xb,xb=w2.heap.size:=⟨_,rfl⟩;rw[←hxb]at hnew⊢
      replace hxb:w2.heap.size≤xb:=by omega
      replace HTs:=qd (HTs.out.mod (Mod.of_below hb []) (by simp));replace HV0:=qB hb HV0;replace HO:=qB hb HO;replace HL:=qB hb HL;replace HR:=qB hb HR;replace HW:=qB hb HW;replace HM:=qB hb HM;have z907:=(hb).size;replace Hmod:=qT Hmod hb;have HX:=qd (hnew);clear hnew hb;replace HO:=qd (show Blk w3 ob2 126 #[.int .u64 ((b2).key:Int),.int .u64 ((b2).val:Int),.int .u64 ((b2).hash:Int)]from HO.out);have HSx:=qd (show leastTs fr0 (Ts.take (j+1))=some b2 from by rw[HSn.out];show(if lessE e b2 then some e else some b2)=_;rw[hlb];rfl);clear HSn;have HSn:=HSx;clear HSx;have HLb:=qd (fun V:World=>split_Less e b2 V);rw[hlb]at HLb;unfold entV at HLb;clear hlb;have xc:=HX.out.c3;have oc:=HO.out.c3;go_wp2_with fail;refine((HLb.out w3)).mono ?_;rintro x w5 ⟨rfl,hb⟩;clear xc oc;replace HTs:=qd (HTs.out.mod (Mod.of_below hb []) (by simp));replace HV0:=qB hb HV0;replace HO:=qB hb HO;replace HL:=qB hb HL;replace HR:=qB hb HR;replace HW:=qB hb HW;replace HM:=qB hb HM;replace HX:=qB hb HX;have z908:=(hb).size;replace Hmod:=qT Hmod hb;clear hb;go_wp2;go_roundw
      case rel=>exact⟨j+1,by omega,by go_num,by rw[HSn.out]<;>rfl,HM.out,by rw[HSn.out];exact HO.out,HTs.out,HV0.out,HL.out,HR.out,HW.out,Hmod.out⟩
      case measure=>simp[intOf];omega
  ·obtain rfl:j=fr.length+1:=by omega
   have hlt':¬((fr.length+1:Nat):Int)<((fr.length+1:Nat):Int):=by omega
   have htk:Ts.take (fr.length+1)=Ts:=List.take_of_length_le (by omega);rw[htk]at hO hM⊢;clear htk;obtain⟨b,hbe⟩:∃b,b=(leastTs fr0 Ts).getD ⟨0,0,0⟩:=⟨_,rfl⟩;have HM:=qd (hM);have HO:=qd (show Blk wr ob2 _ #[.int .u64 ((b).key:Int),.int .u64 ((b).val:Int),.int .u64 ((b).hash:Int)]from by rw[hbe];exact hO);have HR:=qd (hR);have Hmod:=qd (hm);have HBe:=qd hbe;clear hM hO hTs hE hL hR hW hm hbe;have oc:=HO.out.c3;have rc:=HR.out.c3;have rf:=HR.out.f3;go_wp2;have q1:=qJ HM.out.lt (qJ HO.out.lt HR.out.lt);refine qS3 HR.out ?_;rintro w9 ⟨hnew,hm⟩;simp only[pt]at hnew;replace HM:=qM hm HM;replace HO:=qM hm HO;have z4:=(hm).size;replace Hmod:=qU Hmod hm;replace HR:=qd hnew;clear hnew hm;have rx:=HR.out.c3;refine bodyPost_ret (v:= .tuple #[.agg #[.int .u64 ((b).key:Int),.int .u64 ((b).val:Int),.int .u64 ((b).hash:Int)],.bool (leastTs fr0 Ts).isSome]) (by simp[results,Tryz.results199,go_sem,rx.1,rx.2.1,rx.2.2]) rfl ⟨by rw[HBe.out],HM.out,Hmod.out⟩
end
theorem clone_tabs (rb cap:Nat)(ts:List Nat)(hn:1≤ts.length∧ts.length≤2)(w:World)(h:RowAt w rb ts):
  Calls Tryz.prog 272 #[.slice (some ⟨rb,0,none⟩) ts.length cap] w fun e w'=>∃rb' c',w.heap.size≤rb'∧e= .returned (.slice (some ⟨rb',0,none⟩) ts.length c')∧RowAt w' rb' ts∧Below w.heap.size w w':=by
 have HR:=qd h.reads;obtain⟨n1,n2⟩:=hn
 have hnn:(Go.binOp .eql 274 (.slice (some ⟨rb,0,none⟩) ts.length cap) (.slice none 0 0)).run Tryz.prog w= .ok (.bool false) w:=by first|rfl|kernel_rfl|simp[Go.binOp,go_sem]
 clear h;go_in;go_wp2_with (at_builtin;refine wpList_app rfl rfl slty_ptab (World.ownsRow_lit w #[] 0 (Nat.le_refl _) (by simp) rfl) rfl rfl (HR.out.alloc (Nat.le_refl _) _) (ptrs_all ts) (by omega) (by simp) ?_;intro v4 w4 hown4 hg4);rw[Nat.zero_add]at hown4;obtain⟨A4,c4,rfl⟩:=own_form hown4;go_ret;obtain⟨rb',rfl,hrb',hrow,_⟩:=RowAt.of_own (show w4.ownsRow w.heap.size 146 1 (.slice A4 ts.length c4) ts.length (ptrs ts)from by simpa using hown4) (by omega);have hB:Below w.heap.size w w4:=((Below.refl _ _).alloc (Nat.le_refl _) _).trans hg4.below
 first|exact⟨rb',hrb',⟨_,rfl⟩,hrow,hB⟩|exact⟨rb',_,hrb',rfl,hrow,hB⟩
theorem evac_New (tb rb cap depth:Nat)(ts:List Nat)(hn:1≤ts.length∧ts.length≤2)(hd:depth≤15)(w:World)(h:RowAt w rb ts):
  Calls Tryz.prog 268 #[.pointer (some ⟨tb,0,none⟩),.int .i64 (depth:Int),.slice (some ⟨rb,0,none⟩) ts.length cap] w fun e w'=>∃eb vb c2,w.heap.size≤eb∧w.heap.size≤vb∧eb≠vb∧e= .returned (.tuple #[.pointer (some ⟨eb,0,none⟩),.nilIface])∧EvAt w' eb tb vb c2 ts depth 0∧Below w.heap.size w w':=by
 obtain⟨n1,n2⟩:=hn;have HC:=qd (contains_nil rb cap ts n2 w h);have HK:=qd (clone_tabs rb cap ts ⟨n1,n2⟩ w h)
 have hnl:ts.length=1∨ts.length=2:=by omega
 have hd0:¬(depth:Int)<0:=by omega
 have hd1:¬(depth:Int)>15:=by omega
 clear h;obtain⟨n,hnn⟩:∃n,n=ts.length:=⟨_,rfl⟩;have HNn:=qd hnn;rw[←hnn]at HC HK hnl n1 n2;simp only[←hnn];clear hnn;rcases hnl with rfl|rfl
 all_goals
  go_in;go_wp2_with fail;refine(HC.out).mono ?_;rintro y w1 ⟨rfl,rfl⟩;go_wp2_with fail;refine(HK.out).mono ?_;rintro y w2 ⟨vb,c2,hvb,rfl,hrow,hb⟩;have hvl:=hrow.lt;have HN2:=qd (Blk.new w2 303 #[.pointer (some ⟨tb,0,none⟩),.slice (some ⟨vb,0,none⟩) ts.length c2,.int .i64 (depth:Int),.int .i64 0]);have HE:=qd (And.intro (hrow.mod (Mod.of_below ((Below.refl w2.heap.size w2).alloc (Nat.le_refl _) (.cells #[.pointer (some ⟨tb,0,none⟩),.slice (some ⟨vb,0,none⟩) ts.length c2,.int .i64 (depth:Int),.int .i64 0] 303)) []) (by simp)) (hb.alloc hb.size (.cells #[.pointer (some ⟨tb,0,none⟩),.slice (some ⟨vb,0,none⟩) ts.length c2,.int .i64 (depth:Int),.int .i64 0] 303)));rw[←HNn.out]at HN2 HE;have hbs:=hb.size;clear hrow hb;go_wp2;refine bodyPost_ret (v:= .tuple #[.pointer (some ⟨w2.heap.size,0,none⟩),.nilIface]) (by simp[results,Tryz.results268,go_sem]) rfl ?_;have hEv:EvAt (w2.alloc (.cells #[.pointer (some ⟨tb,0,none⟩),.slice (some ⟨vb,0,none⟩) _ c2,.int .i64 (depth:Int),.int .i64 0] 303)) w2.heap.size tb vb c2 ts depth 0:=⟨by rw[←HNn.out];exact HN2.out,HE.out.1⟩
  first|exact⟨w2.heap.size,vb,c2,hbs,hvb,by omega,rfl,hEv,HE.out.2⟩|exact⟨w2.heap.size,hbs,vb,hvb,by omega,rfl,c2,hEv,HE.out.2⟩
section
variable {w w' : World} {α : Type} {j n : Nat} {bl : List (Nat × Nat × Nat)}
theorem below_asMod {B:Nat}(h:Below B w w'):Mod (List.range' B (w.heap.size-B)) w w':=
 ⟨h.os,h.tape,h.output,h.size,fun k hk hn=>h.block k (by simp[List.mem_range'_1]at hn;omega)⟩
theorem nodup_flat {f:α→List Nat}{l:List α}(h:(l.flatMap f).Nodup){i:Nat}{a b:α}(hi:l[i]?=some a)(hj:l[j]?=some b)(hne:i≠j):∀x∈f a,x∉f b:=by
 obtain⟨hi',rfl⟩:=List.getElem?_eq_some_iff.1 hi;obtain⟨hj',rfl⟩:=List.getElem?_eq_some_iff.1 hj;have hp:=List.pairwise_iff_getElem.1 (List.pairwise_flatMap.1 h).2;intro x hx hy;rcases Nat.lt_or_ge i j with hlt|hge
 ·exact hp i j hi' hj' hlt x hx x hy rfl
 ·exact hp j i hj' hi' (by omega) x hy x hx rfl
theorem nodup_at {f:α→List Nat}{l:List α}(h:(l.flatMap f).Nodup){a:α}(ha:a∈l):(f a).Nodup:=(List.pairwise_flatMap.1 h).1 a ha
structure BgAt (w:World)(bl:List (Nat×Nat×Nat))(n j:Nat):Prop where
 undone:∀(i:Nat) (b:Nat×Nat×Nat),bl[i]?=some b→j≤i→BldAt w b.1 b.2.1 b.2.2 n n
 done:∀(i:Nat) (b:Nat×Nat×Nat),bl[i]?=some b→i<j→Blk w b.1 310 #[.pointer none,.int .i64 (n:Int),.int .i64 (n:Int)]
 tabs:∀(i:Nat) (b:Nat×Nat×Nat),bl[i]?=some b→TabAt w b.2.1 b.2.2 (prepT n n)
theorem BgAt.mod {S:List Nat}(h:BgAt w bl n j)(hm:Mod S w w')(hs:∀b∈bl,b.1∉S∧b.2.1∉S∧b.2.2∉S):BgAt w' bl n j:=
 ⟨fun i b hb hj=>by obtain⟨h1,h2,h3⟩:=hs b (List.mem_of_getElem? hb);exact(h.undone i b hb hj).mod hm h1 h2 h3,
  fun i b hb hj=>(h.done i b hb hj).mod hm (hs b (List.mem_of_getElem? hb)).1,
  fun i b hb=>(h.tabs i b hb).mod hm (hs b (List.mem_of_getElem? hb)).2.1 (hs b (List.mem_of_getElem? hb)).2.2⟩
def blBlocks (b:Nat×Nat×Nat):List Nat:=[b.1,b.2.1,b.2.2]
def blTabs (bl:List (Nat×Nat×Nat)):List (Nat×Nat):=bl.map fun b=>(b.2.1,b.2.2)
theorem perm_blocks:∀bl:List (Nat×Nat×Nat),(bl.flatMap blBlocks).Perm (bl.map (fun b=>b.1)++flatB (blTabs bl))
 | []=> .refl _
 |b::t=>by
  have h:=perm_blocks t
  have h1:((b::t).flatMap blBlocks)=b.1::([b.2.1,b.2.2]++t.flatMap blBlocks):=by simp[blBlocks]
  have h2:((b::t).map (fun b=>b.1)++flatB (blTabs (b::t)))=b.1::(t.map (fun b=>b.1)++([b.2.1,b.2.2]++flatB (blTabs t))):=by simp[flatB,blTabs]
  rw[h1,h2];refine List.Perm.cons _ ((h.append_left _).trans ?_);rw[←List.append_assoc,←List.append_assoc];exact List.perm_append_comm.append_right _
theorem mem_flat_blocks {q:Nat}(h:q∈bl.map (fun b=>b.1)++flatB (blTabs bl)):q∈bl.flatMap blBlocks:=(perm_blocks bl).mem_iff.2 h
theorem fst_blTabs (bl:List (Nat×Nat×Nat)):(blTabs bl).map Prod.fst=bl.map fun b=>b.2.1:=by simp[blTabs]
theorem BgAt.take (h:BgAt w bl n j)(hnd:(bl.flatMap blBlocks).Nodup){b:Nat×Nat×Nat}(hb:bl[j]?=some b)(hk:Blk w' b.1 310 #[.pointer none,.int .i64 (n:Int),.int .i64 (n:Int)])(hm:Mod [b.1] w w'):BgAt w' bl n (j+1):=by
 have ap:∀(i:Nat) (c:Nat×Nat×Nat),bl[i]?=some c→i≠j→c.1≠b.1∧c.2.1≠b.1∧c.2.2≠b.1:=fun i c hc hne=>by
  have hf:=nodup_flat hnd hc hb hne;have h1:=hf c.1 (by simp[blBlocks]);have h2:=hf c.2.1 (by simp[blBlocks]);have h3:=hf c.2.2 (by simp[blBlocks]);simp[blBlocks]at h1 h2 h3;exact⟨h1.1,h2.1,h3.1⟩
 have hb3:=nodup_at hnd (List.mem_of_getElem? hb);simp[blBlocks]at hb3;refine⟨fun i c hc hj=> ?_,fun i c hc hj=> ?_,fun i c hc=> ?_⟩
 ·obtain⟨h1,h2,h3⟩:=ap i c hc (by omega);exact(h.undone i c hc (by omega)).mod hm (by simpa using h1) (by simpa using h2) (by simpa using h3)
 ·by_cases hij:i=j
  ·subst hij;rw[hb]at hc;cases hc;exact hk
  ·exact(h.done i c hc (by omega)).mod hm (by simpa using(ap i c hc hij).1)
 ·by_cases hij:i=j
  ·subst hij;rw[hb]at hc;cases hc;exact(h.tabs _ _ hb).mod hm (by simp;omega) (by simp;omega)
  ·obtain⟨h1,h2,h3⟩:=ap i c hc hij;exact(h.tabs i c hc).mod hm (by simpa using h2) (by simpa using h3)
theorem BgAt.tabsAt (h:BgAt w bl n j)(hnd:(bl.flatMap blBlocks).Nodup):TabsAt w (blTabs bl) (List.replicate bl.length (prepT n n)):=by
 refine⟨by simp[blTabs],fun i b T hb hT=> ?_,fun i k b c hb hc hne=> ?_⟩
 ·unfold blTabs at hb;rw[List.getElem?_map]at hb;obtain⟨x,hx,rfl⟩:=Option.map_eq_some_iff.1 hb;have:=List.mem_of_getElem? hT;rw[(List.mem_replicate.1 this).2];exact h.tabs i x hx
 ·unfold blTabs at hb hc;rw[List.getElem?_map]at hb hc;obtain⟨x,hx,rfl⟩:=Option.map_eq_some_iff.1 hb;obtain⟨y,hy,rfl⟩:=Option.map_eq_some_iff.1 hc;have hf:=nodup_flat hnd hx hy hne;have h1:=hf x.2.1 (by simp[blBlocks]);have h2:=hf x.2.2 (by simp[blBlocks]);simp[blBlocks]at h1 h2;exact⟨h1.2.1,h1.2.2,h2.2.1,h2.2.2⟩
theorem ptrs_snoc {f:α→Nat}{l:List α}{b:α}(h:l[j]?=some b):ptrs ((l.take j).map f)++[.pointer (some ⟨f b,0,none⟩)]=ptrs ((l.take (j+1)).map f):=by
 rw[take_nx h,List.map_append];simp[ptrs]
theorem dual_begin (db rb cap ob og:Nat)(bl:List (Nat×Nat×Nat))(T:TabM)(n depth:Nat)(hmany:1≤bl.length∧bl.length≤2)(hdeep:depth≤15)(hpow:Pw n)(hnd:(footB db rb ob og bl).Nodup)(w:World)(hblk:Blk w db 277 #[.pointer (some ⟨ob,0,none⟩),.int .i64 (depth:Int),.slice (some ⟨rb,0,none⟩) bl.length cap,.slice none 0 0,.pointer none,.bool false])(hrow:RowAt w rb (bl.map fun b=>b.1))(htab:TabAt w ob og T)(hbl:BgAt w bl n 0):
  Calls Tryz.prog 259 #[dualP db] w fun e w'=>e= .returned undef∧∃fb fcap eb vb vcap,DuM w' db rb cap ob og fb fcap eb vb vcap (bl.map fun b=>b.1) (blTabs bl) T (List.replicate bl.length (prepT n n)) n depth 0∧w.heap.size≤fb∧w.heap.size≤eb∧w.heap.size≤vb∧Mod (footB db rb ob og bl) w w':=by
 obtain⟨n1,n2⟩:=hmany;unfold footB at hnd;simp only[List.nodup_cons,List.mem_cons,not_or]at hnd;obtain⟨⟨hd1,hd2,hd3,hd4⟩,⟨hr1,hr2,hr3⟩,⟨ho1,ho2⟩,hg1,hnd'⟩:=hnd;have hmemF:∀b∈bl,∀q,q=b.1∨q=b.2.1∨q=b.2.2→q∈bl.flatMap fun b=> [b.1,b.2.1,b.2.2]:=fun b hb q hq=>List.mem_flatMap.2 ⟨b,hb,by simpa using hq⟩
 have hne:∀b∈bl,db≠b.1∧db≠b.2.1∧db≠b.2.2∧rb≠b.1∧rb≠b.2.1∧rb≠b.2.2∧ob≠b.1∧ob≠b.2.1∧ob≠b.2.2∧og≠b.1∧og≠b.2.1∧og≠b.2.2∧b.1<w.heap.size∧b.2.1<w.heap.size∧b.2.2<w.heap.size:=fun b hb=>by
  have m1:=hmemF b hb b.1 (.inl rfl);have m2:=hmemF b hb b.2.1 (.inr (.inl rfl));have m3:=hmemF b hb b.2.2 (.inr (.inr rfl));obtain⟨i,hi⟩:=List.getElem?_of_mem hb;have hl:=hbl.undone i b hi (Nat.zero_le _);exact⟨fun e=>hd4 (e▸m1),fun e=>hd4 (e▸m2),fun e=>hd4 (e▸m3),fun e=>hr3 (e▸m1),fun e=>hr3 (e▸m2),fun e=>hr3 (e▸m3),fun e=>ho2 (e▸m1),fun e=>ho2 (e▸m2),fun e=>ho2 (e▸m3),fun e=>hg1 (e▸m1),fun e=>hg1 (e▸m2),fun e=>hg1 (e▸m3),hl.lt,hl.ltT,hl.ltG⟩
 have HND:=qd (show(bl.flatMap blBlocks).Nodup from hnd');have HDp:=qd hdeep;have HPw:=qd hpow;clear hnd' hmemF hd4 hr3 ho2 hg1 hdeep hpow;have HD:=qd (hblk);have HR:=qd (hrow);have HT:=qd (htab);have HB:=qd (hbl);have Hmod:=qd (Mod.refl (footB db rb ob og bl) w);have q1:=qJ HD.out.lt (qJ HR.out.lt (qJ HT.out.ltT HT.out.ltG));clear hblk hrow htab hbl;unfold dualP;go_in;have dc:=HD.out.c6;go_wp2;clear dc;go_loopw [3,9] (fun _ i wr=>∃j:Nat,j≤bl.length∧i= .int .i64 j∧∃v,Blk wr db 277 #[.pointer (some ⟨ob,0,none⟩),.int .i64 (depth:Int),.slice (some ⟨rb,0,none⟩) bl.length cap,v,.pointer none,.bool false]∧wr.ownsRow w.heap.size 146 1 v j (ptrs ((bl.take j).map fun b=>b.2.1))∧RowAt wr rb (bl.map fun b=>b.1)∧TabAt wr ob og T∧BgAt wr bl n j∧Mod (footB db rb ob og bl) w wr) (fun _ i _=>bl.length-(intOf i).toNat)
 case atStart=>exact⟨0,by omega,rfl,_,HD.out,by simpa[ptrs]using World.ownsRow_nil w w.heap.size _ 1,HR.out,HT.out,HB.out,Hmod.out⟩
 case round=>
  clear HD HR HT HB Hmod;obtain⟨j,hj,rfl,v,hD,hO,hR,hT,hB,hm⟩:=hrel;obtain⟨A,vc,rfl⟩:=own_form hO;by_cases hlt:j<bl.length
  ·have hlt':(j:Int)<(bl.length:Int):=by omega
   have hj0:(0:Int)≤(j:Int):=by omega
   obtain⟨b,hb⟩:∃b,bl[j]?=some b:=⟨_,List.getElem?_eq_getElem hlt⟩;have hbm:=List.mem_of_getElem? hb;have hbb:=hne b hbm;have hrw:=hR.at_ j b.1 (by rw[List.getElem?_map,hb];rfl);have HPs:=qd (ptrs_snoc (f:=fun b:Nat×Nat×Nat=>b.2.1) hb);have HBi:=qd hb;clear hb;have HD:=qd (hD);have HR:=qd (hR);have HT:=qd (hT);have HB:=qd (hB);have HO:=qd (hO);have Hmod:=qd (hm);clear hD hO hR hT hB hm;have z1:=qJ Hmod.out.size (qJ HD.out.lt (qJ HR.out.lt (qJ HT.out.ltT HT.out.ltG)));go_upto_region 3 with fail;have dc:=HD.out.c6;refine rT (fun(w':World)=>w'.cell? ⟨db,3,none⟩=some (.slice A j vc)) [14] ?_;have hHeld:=dc.2.2.2.1;refine vW 0 rfl ?_;refine vW 1 rfl ?_;refine vW 2 rfl ?_;refine vW 3 rfl ?_;refine vT 4 rfl ?_;refine vW 5 rfl ?_;refine nT 6 rfl fun K hK=> ?_;go_simp;have HTk:=qd (build_Take b.1 b.2.1 b.2.2 n wr.drew (((HB.out.undone j b HBi.out (Nat.le_refl _)).mod (Mod.drewN [] wr 1) (by simp) (by simp) (by simp))));unfold bldP tabP at HTk;refine(HTk.out).mono ?_;rintro y w1 ⟨rfl,hk1,_,hm⟩;replace hm:Mod [b.1] wr w1:=(Mod.drewN [b.1] wr 1).then hm;have hB1:=HB.out.take HND.out HBi.out hk1 hm;clear HTk HB hk1;have hm0:Mod (footB db rb ob og bl) wr w1:=hm.more (by intro q hq;simp at hq;subst hq;exact(mem_footB hbm).1);have HmO:=Hmod;clear Hmod;have Hmod:=qd (Mod.refl [b.1] wr);clear hrw dc;replace HD:=qM hm HD;replace HR:=qM hm HR;replace HT:=qM hm HT;replace HO:=qM hm HO;have z6:=(hm).size;replace Hmod:=qd (Hmod.out.trans hm (fun _ hh _=>hh) (by intro k hk hl;simp at hk⊢<;>omega))
   clear Hmod;have Hmod:=qd (HmO.out.then hm0);clear HmO hm0 hm;have HB:=qd hB1;clear hB1;have dc:=HD.out.c6;go_wp2_with fail;have hHeld:=dc.2.2.2.1;refine kO hK ?_;clear hK K;refine vW 7 rfl ?_;refine vW 8 rfl ?_;refine nT 9 rfl fun K hK=> ?_;go_simp;refine(must_tab (some ⟨b.2.1,0,none⟩) w1).mono ?_;rintro y w2 ⟨rfl,rfl⟩;go_wp2_with fail;have hHeld:=dc.2.2.2.1;refine kO hK ?_;clear hK K;refine nT 10 rfl fun K hK=> ?_;go_simp;have q7:=qJ HD.out.lt (qJ HR.out.lt (qJ HT.out.ltT (qJ HT.out.ltG Hmod.out.size)));refine nameB 146 #[.pointer (some ⟨b.2.1,0,none⟩)] ?_;rintro w3 ⟨hnew,hb⟩;obtain⟨xb,hxb⟩:∃xb,xb=w1.heap.size:=⟨_,rfl⟩;rw[←hxb]at hnew⊢
   replace hxb:w1.heap.size≤xb:=by omega
   clear dc;replace HD:=qB hb HD;replace HR:=qB hb HR;replace HT:=qB hb HT;replace HO:=qB hb HO;replace HB:=qd (HB.out.mod (Mod.of_below hb []) (by simp));have z12:=(hb).size;replace Hmod:=qT Hmod hb;have HX:=qd (hnew);clear hnew hb;have dc:=HD.out.c6;have xc0:=HX.out.cell 0;simp only[List.getElem?_toArray,List.getElem?_cons_zero]at xc0;have hHeld:=dc.2.2.2.1;refine kO hK ?_;clear hK K;refine nT 11 rfl fun K hK=> ?_;refine step_app (by rfl) (by rfl) slty_ptab HO.out (by rfl) (by rfl) (reads_blk (size:=1) (m:=1) HX.out (by rfl)) (by rfl) (by omega) (by have:=Hmod.out.size;omega) ?_;intro v4 w4 hown4 hgr4;have hown5:w4.ownsRow w.heap.size 146 1 v4 (j+1) (ptrs ((bl.take (j+1)).map fun b=>b.2.1)):=HPs.out▸hown4;clear hown4;obtain⟨A4,vc4,rfl⟩:=own_form hown5;have hb4:=hgr4.below;clear HX HO dc xc0;replace HD:=qd (HD.out.mod (below_asMod hb4) (by simp[List.mem_range'_1]<;>omega));replace HR:=qd (HR.out.mod (below_asMod hb4) (by simp[List.mem_range'_1]<;>omega));replace HT:=qd (HT.out.mod (below_asMod hb4) (by simp[List.mem_range'_1]<;>omega) (by simp[List.mem_range'_1]<;>omega));replace HB:=qd (HB.out.mod (below_asMod hb4) (fun b hb=>by have hh:=hne b hb;simp[List.mem_range'_1]<;>omega));have z13:=(hb4).size;replace Hmod:=qd (Hmod.out.trans (below_asMod hb4) (fun _ hh _=>hh) (by intro k hk hl;simp[List.mem_range'_1]at hk;omega));have HO:=qd hown5;clear hown5 hb4;have dc:=HD.out.c6;have df:=HD.out.f6;have hHeld:=dc.2.2.2.1;refine kO hK ?_;clear hK K;refine vW 12 rfl ?_
   refine vW 13 rfl ?_;refine nT 14 rfl fun K hK=> ?_;go_simp;refine kO hK ?_;clear hK K;refine doneT (by kernel_rfl) ?_ _;have q14:=qJ HD.out.lt (qJ HR.out.lt (qJ HT.out.ltT HT.out.ltG));refine qS1 HD.out ?_;rintro w5 ⟨hnew,hm⟩;simp only[pt]at hnew;replace HR:=qM hm HR;replace HT:=qM hm HT;replace HB:=qd (HB.out.mod hm (fun b hb=>by have hh:=hne b hb;simp<;>omega));replace HO:=qM hm HO;have z18:=(hm).size;replace Hmod:=qd (Hmod.out.trans hm (fun _ hh _=>hh) (by intro k hk hl;simp[footB]at hk⊢<;>omega));replace HD:=qd hnew;clear hnew hm;go_wp2;go_roundw
   case rel=>exact⟨j+1,by omega,by go_num,_,HD.out,HO.out,HR.out,HT.out,HB.out,Hmod.out⟩
   case measure=>simp[intOf];omega
  ·obtain rfl:j=bl.length:=by omega
   have hlt':¬(bl.length:Int)<(bl.length:Int):=by omega
   rw[List.take_length]at hO;obtain⟨fb,rfl,hfb,hfr,_⟩:=RowAt.of_own hO (by omega);have HD:=qd (hD);have HR:=qd (hR);have HT:=qd (hT);have HB:=qd (hB);have HF:=qd (hfr);have Hmod:=qd (hm);clear hD hO hR hT hB hfr hm;have z1:=qJ Hmod.out.size (qJ HD.out.lt (qJ HR.out.lt (qJ HT.out.ltT (qJ HT.out.ltG HF.out.lt))));go_upto_region 5 with fail;have dc:=HD.out.c6;have HEv:=qd (evac_New ob fb vc depth (bl.map fun b:Nat×Nat×Nat=>b.2.1) (by rw[List.length_map];exact⟨n1,n2⟩) HDp.out wr.drew (HF.out.mod (Mod.drewN [] wr 1) (by simp)));rw[List.length_map]at HEv;refine rT (fun(w':World)=>w'.cell? ⟨db,0,none⟩=some (.pointer (some ⟨ob,0,none⟩))∧w'.cell? ⟨db,1,none⟩=some (.int .i64 (depth:Int))∧w'.cell? ⟨db,3,none⟩=some (.slice (some ⟨fb,0,none⟩) bl.length vc)) [19] ?_;have hHeld:=(⟨dc.1,dc.2.1,dc.2.2.2.1⟩:_∧_∧_);refine vW 0 rfl ?_;refine vW 1 rfl ?_;refine vW 2 rfl ?_;refine vW 3 rfl ?_;refine vT 4 rfl ?_;refine vW 5 rfl ?_;refine vW 6 rfl ?_;refine vW 7 rfl ?_;refine vT 8 rfl ?_;refine vW 9 rfl ?_;refine vW 10 rfl ?_;refine vW 11 rfl ?_;refine vT 12 rfl ?_;refine nT 13 rfl fun K hK=> ?_;go_simp;refine(HEv.out).mono ?_;rintro y w1 ⟨eb,vb,c2,heb,hvb,hev,rfl,hEv,hb⟩;replace hb:Below wr.heap.size wr w1:=below_nx hb (Below.refl _ _).drew;replace heb:wr.heap.size≤eb:=heb;replace hvb:wr.heap.size≤vb:=hvb;clear HEv dc;replace HD:=qB hb HD;replace HR:=qB hb HR;replace HT:=qB hb HT;replace HB:=qd (HB.out.mod (Mod.of_below hb []) (by simp));replace HF:=qB hb HF;have z7:=(hb).size
   replace Hmod:=qT Hmod hb;have HE:=qd (hEv);clear hEv hb;have dc:=HD.out.c6;go_wp2_with fail;have hHeld:=(⟨dc.1,dc.2.1,dc.2.2.2.1⟩:_∧_∧_);refine kO hK ?_;clear hK K;refine vW 14 rfl ?_;refine vW 15 rfl ?_;refine nT 16 rfl fun K hK=> ?_;go_simp;refine(must_evac (some ⟨eb,0,none⟩) w1).mono ?_;rintro y w2 ⟨rfl,rfl⟩;go_wp2_with fail;have hHeld:=(⟨dc.1,dc.2.1,dc.2.2.2.1⟩:_∧_∧_);refine kO hK ?_;clear hK K;refine vW 17 rfl ?_;refine vW 18 rfl ?_;refine nT 19 rfl fun K hK=> ?_;have dc:=HD.out.c6;have df:=HD.out.f6;go_simp;refine kO hK ?_;clear hK K;refine doneT (by kernel_rfl) ?_ _;have q8:=qJ HD.out.lt (qJ HR.out.lt (qJ HT.out.ltT (qJ HT.out.ltG (qJ HF.out.lt (qJ HE.out.lt HE.out.ltV)))));refine qS1 HD.out ?_;rintro w3 ⟨hnew,hm⟩;simp only[pt]at hnew;replace HR:=qM hm HR;replace HT:=qM hm HT;replace HB:=qd (HB.out.mod hm (fun b hb=>by have hh:=hne b hb;simp<;>omega));replace HF:=qM hm HF;replace HE:=qM hm HE;have z15:=(hm).size;replace Hmod:=qd (Hmod.out.trans hm (fun _ hh _=>hh) (by intro k hk hl;simp[footB]at hk⊢<;>omega));replace HD:=qd hnew;clear hnew hm;have hndB:=HND.out;have hd4:∀b∈bl,_:=hne
   have hDM:DuM w3 db rb cap ob og fb vc eb vb c2 (bl.map fun b=>b.1) (blTabs bl) T (List.replicate bl.length (prepT n n)) n depth 0:=by
    have hlt1:(bl.map fun b=>b.1).length=bl.length:=List.length_map ..;have hlt2:(blTabs bl).length=bl.length:=List.length_map ..;refine⟨by rw[hlt1,hlt2];exact HD.out,HR.out,fun q hq=> ?_,by rw[fst_blTabs];exact HF.out,by rw[fst_blTabs];exact HE.out,HT.out,HB.out.tabsAt hndB,HPw.out,by rw[hlt2];exact⟨n1,n2⟩,by rw[hlt1,hlt2],HDp.out, ?_⟩
    ·obtain⟨b,hb,rfl⟩:=List.mem_map.1 hq;obtain⟨i,hi⟩:=List.getElem?_of_mem hb;exact HB.out.done i b hi (List.getElem?_eq_some_iff.1 hi).1
    ·have hlow:∀q∈bl.map (fun b=>b.1)++flatB (blTabs bl),q<w.heap.size∧db≠q∧rb≠q∧ob≠q∧og≠q:=fun q hq=>by
      obtain⟨b,hb,hqb⟩:=List.mem_flatMap.1 (mem_flat_blocks hq);have hh:=hne b hb;simp[blBlocks]at hqb
      rcases hqb with rfl|rfl|rfl<;>omega
     unfold footM;simp only[List.nodup_cons,List.mem_cons,not_or]
     have hz:∀q,(q=db∨q=rb∨q=ob∨q=og∨w.heap.size≤q)→q∉bl.map (fun b=>b.1)++flatB (blTabs bl):=fun q hq hm=>by
      have:=hlow q hm;omega
     refine⟨⟨by omega,by omega,by omega,by omega,by omega,by omega,hz _ (by omega)⟩,⟨by omega,by omega,by omega,by omega,by omega,hz _ (by omega)⟩,⟨by omega,by omega,by omega,by omega,hz _ (by omega)⟩,⟨by omega,by omega,by omega,hz _ (by omega)⟩,⟨by omega,by omega,hz _ (by omega)⟩,⟨by omega,hz _ (by omega)⟩,hz _ (by omega),(perm_blocks bl).nodup_iff.1 hndB⟩
   go_wp2;go_end0
   first|exact⟨rfl,fb,vc,eb,vb,⟨c2,hDM⟩,hfb,by omega,by omega,Hmod.out⟩|exact⟨rfl,fb,vc,eb,vb,c2,hDM,hfb,by omega,by omega,Hmod.out⟩
end
end Go.Proofs.YtflbmgpmnocnbaaGreatDoor
