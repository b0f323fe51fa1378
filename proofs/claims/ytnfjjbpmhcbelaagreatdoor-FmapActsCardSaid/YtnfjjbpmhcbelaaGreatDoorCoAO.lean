/- A dual's Least by its contract. -/
import Derived.Test.YtnfjjbpmhcbelaaGreatDoorCoAK
import Derived.Test.YtnfjjbpmhcbelaaGreatDoorSqM
import Derived.Test.YtnfjjbpmhcbelaaGreatDoorGaugeA
import Derived.Test.YtnfjjbpmhcbelaaGreatDoorAppAny
namespace Go.Proofs.YtnfjjbpmhcbelaaGreatDoor
set_option maxRecDepth 100000
set_option maxHeartbeats 8000000
open Go.RowKit dI
section
variable {Ts : List aC} {j : Nat} {T : aC}
def sU (o o2:Option av):Option av:=match o2 with
 |none=>o
 |some e=>match o with
  |none=>some e
  |some b=>if bF e b then some e else some b
def fT (f:av)(Ts:List aC):Option av:=Ts.foldl (fun o T=>sU o (dO f none (aM T.gs))) none
theorem NW (f:av)(h:Ts[j]?=some T):fT f (Ts.take (j+1))=sU (fT f (Ts.take j)) (dO f none (aM T.gs)):=by
 unfold fT;rw[rO h,List.foldl_append];rfl
def sV (Ts:List aC):Nat:=(Ts.map fun T=>T.gs.length).sum
theorem VH (h:Ts[j]?=some T):sV (Ts.take (j+1))=sV (Ts.take j)+T.gs.length:=by
 unfold sV;rw[rO h,List.map_append,List.sum_append];simp
theorem Iq {W0:World}{E:Nat→Addr}(db ob cap:Nat)(A:Option Addr)(fr:List Nat)(hl2:fr.length≤2)(dep bls mv tk:Value)(bs:List (Nat×Nat))(Ts:List aC)(P:MP)(x:bL)(c:bq)(hash key:Nat)(w:World)(hblk:aj w db 301 #[.pointer (some ⟨ob,0,none⟩),dep,bls,.slice A fr.length cap,mv,tk])(hrd:Reads w w.heap.size 1 A fr.length (ptrs fr))(hbs:bs.map Prod.fst=fr++[ob])(hts:iw w bs Ts)(sW:∀T∈Ts,T.gs.length≤64)(hM:aN w P x)(hE:Env W0 E w)(hb0:W0.heap.size≤P.mb)(hbd:∀b∈bs,P.mb≠b.1∧P.mb≠b.2):
  Calls Tryz.prog 238 #[bX db,aG (some ⟨P.mb,P.mo,none⟩) c,.int .u64 (hash:Int),.int .u64 (key:Int)] w fun e w'=>e= .returned (eX (fT ⟨key,0,hash⟩ Ts))∧aN w' P (x.add c (sV Ts))∧Mod [P.mb] w w':=by
 obtain⟨y5,hfr⟩:∃y5:av,y5=⟨key,0,hash⟩:=⟨_,rfl⟩;rw[←hfr];have HFR:=qd hfr;clear hfr
 have hbl:bs.length=fr.length+1:=by have:=congrArg List.length hbs;simpa using this
 have afO:=hts.len;obtain⟨W,hW,hB,hL,hR,hO⟩:=qX3 w 163 #[.pointer (some ⟨P.mb,P.mo,none⟩),.int .i64 c.p,.int .i64 c.v,.int .i64 c.u] 166 #[.int .u64 0,.int .u64 0,.int .u64 0] 166 #[.int .u64 0,.int .u64 0,.int .u64 0];have hml:=hM.lt;have hB0:=hE.size;have HW:=qd hW
 have hbw:∀b∈bs,b.1<w.heap.size∧b.2<w.heap.size:=fun b hb=>by
  obtain⟨j,hj⟩:=List.getElem?_of_mem hb;obtain⟨hlt,_⟩:=List.getElem?_eq_some_iff.1 hj
  have hlt2:j<Ts.length:=by rw[←hts.len];exact hlt
  have:=hts.at_ j b Ts[j] hj (List.getElem?_eq_getElem hlt2);exact⟨this.aT,this.aU⟩
 have HTb:=qd (Qa db ob cap A fr hl2 dep bls mv tk W (hblk.below hB hblk.lt) ((hrd.below hB).more hB.size));unfold bX at HTb⊢;unfold aG eX aP;have dJ:=qd (hts.mod (Mod.of_below hB []) (by simp));have ay:=qd (hE.next hB);have HM:=qd (show aN W P (x.add c (sV (Ts.take 0)))from hM.below hB);have HL:=qd (hL);have HR:=qd (hR);have HO:=qd (show aj W _ _ (xU (fT y5 (Ts.take 0)))from hO);have ah:=qd (Mod.of_below hB [P.mb]);have z1:=ah.out.size;obtain⟨lb,hlb⟩:∃lb,lb=w.heap.size:=⟨_,rfl⟩;obtain⟨rb,hrb⟩:∃rb,rb=w.heap.size+1:=⟨_,rfl⟩;obtain⟨KL,nV⟩:∃KL,KL=w.heap.size+1+1:=⟨_,rfl⟩;clear hW hB hblk hrd hM hL hE hR hO hts;go_in;go_upto_region 3 with fail;rw[←HW.out,←nV,←hrb,←hlb];rw[←hlb]at HL;rw[←hrb]at HR;rw[←nV]at HO
 have n1:lb<rb:=by omega
 have n2:rb<KL:=by omega
 have n4:P.mb<lb:=by omega
 have n7:W0.heap.size≤lb:=by omega
 have n8:w.heap.size≤lb:=by omega
 clear hlb hrb nV HW;have q2:=qJ HM.out.lt (qJ HL.out.lt (qJ HR.out.lt HO.out.lt));go_wp2_with fail;refine(HTb.out).mono ?_;rintro x w1 ⟨tb,tc,htb,rfl,hrow,hb⟩;replace dJ:=qd (dJ.out.mod (Mod.of_below hb []) (by simp));replace ay:=qB hb ay;replace HM:=qB hb HM;replace HL:=qB hb HL;replace HR:=qB hb HR;replace HO:=qB hb HO;have z6:=(hb).size;replace ah:=qT ah hb;clear hb;have HW:=qd (hrow);clear hrow HTb;have q7:=qJ HM.out.lt (qJ HL.out.lt (qJ HR.out.lt (qJ HO.out.lt HW.out.lt)));go_wp2;go_loopw [11,13,14,15,19] (fun v11 _ _ _ i wr=>∃j:Nat,j≤fr.length+1∧i= .int .i64 j∧v11= .bool (fT y5 (Ts.take j)).isSome∧aN wr P (x.add c (sV (Ts.take j)))∧aj wr KL 166 (xU (fT y5 (Ts.take j)))∧iw wr bs Ts∧Env W0 E wr∧aj wr lb 163 #[.pointer (some ⟨P.mb,P.mo,none⟩),.int .i64 c.p,.int .i64 c.v,.int .i64 c.u]∧aj wr rb 166 #[.int .u64 0,.int .u64 0,.int .u64 0]∧fA wr tb (fr++[ob])∧Mod [P.mb] w wr) (fun _ _ _ _ i _=>(fr.length+1)-(intOf i).toNat)
 case atStart=>exact⟨0,by omega,rfl,rfl,HM.out,HO.out,dJ.out,ay.out,HL.out,HR.out,HW.out,ah.out⟩
 case round=>
  clear HM HO dJ ay HL HR HW ah;obtain⟨j,hj,rfl,rfl,hM,hO,hTs,hE,hL,hR,hW,hm⟩:=hrel;by_cases hlt:j<fr.length+1
  ·have hlt':(j:Int)<((fr.length:Int)+1):=by omega
   have hj0:(0:Int)≤(j:Int):=by omega
   obtain⟨b,hb⟩:∃b,bs[j]?=some b:=⟨_,List.getElem?_eq_getElem (by omega)⟩;obtain⟨T,hT⟩:∃T,Ts[j]?=some T:=⟨_,List.getElem?_eq_getElem (by omega)⟩;have oV:=List.mem_of_getElem? hb;have hbb:=hbd b oV;have hrw:=hW.at_ j b.1 (by rw[←hbs,List.getElem?_map,hb];rfl);have h64:=sW T (List.mem_of_getElem? hT);have dZ:=qd (NW y5 hT);have VI:=qd (VH hT);have Fe:=qd hb;have HTi:=qd hT;clear hb hT;have dJ:=qd (hTs);have HM:=qd (hM);have ay:=qd (hE);have HO:=qd (hO);have HL:=qd (hL);have HR:=qd (hR);have HW:=qd (hW);have ah:=qd (hm);clear hM hO hTs hE hL hR hW hm;obtain⟨o,ho⟩:∃o,o=fT y5 (Ts.take j):=⟨_,rfl⟩;rw[←ho]at HO dZ⊢;clear ho;have qh:=qd (E9 b.1 b.2 T P (x.add c (sV (Ts.take j))) c hash key h64 wr (dJ.out.at_ j b T Fe.out HTi.out) HM.out ay.out hbb.1 hbb.2 hb0);rw[←HFR.out]at qh;obtain⟨p,hp⟩:∃p,p=dO y5 none (aM T.gs):=⟨_,rfl⟩;rw[←hp]at qh dZ;clear hp;unfold bU aG eX aP at qh;go_upto_region 6 with fail;have lc:=HL.out.c4;go_wp2_with fail;refine(qh.out).mono ?_;rintro x w2 ⟨rfl,hM1,hm⟩;clear hrw lc;replace dJ:=qd (dJ.out.mod hm (fun b hb=>by have hh:=hbd b hb;have hh2:=hbw b hb;simp<;>omega));replace ay:=qM hm ay;replace HO:=qM hm HO;replace HL:=qM hm HL;replace HR:=qM hm HR;replace HW:=qM hm HW;have z1:=(hm).size;replace ah:=qU ah hm;clear hm HM qh;have HM:=qd (show aN w2 P (x.add c (sV (Ts.take (j+1))))from by rw[VI.out,←bL.add_add];exact hM1);clear hM1;go_upto_region 7 with fail
   cases p with
   |none=>
    have Y3:=qJ HO.out.lt (qJ HL.out.lt (qJ HR.out.lt (qJ HW.out.lt (qJ HM.out.lt ah.out.size))));refine dF 166 #[.int .u64 0,.int .u64 0,.int .u64 0] ?_;rintro w3 ⟨hnew,hb⟩;obtain⟨xb,hxb⟩:∃xb,xb=w2.heap.size:=⟨_,rfl⟩;rw[←hxb]at hnew⊢
    replace hxb:w2.heap.size≤xb:=by omega
    replace dJ:=qd (dJ.out.mod (Mod.of_below hb []) (by simp));replace ay:=qB hb ay;replace HO:=qB hb HO;replace HL:=qB hb HL;replace HR:=qB hb HR;replace HW:=qB hb HW;replace HM:=qB hb HM;have Y4:=(hb).size;replace ah:=qT ah hb;have HX:=qd (hnew);clear hnew hb;replace dZ:=qd (show fT y5 (Ts.take (j+1))=o from dZ.out);go_wp2;go_roundw
    case rel=>exact⟨j+1,by omega,by go_num,by rw[dZ.out]<;>rfl,HM.out,by rw[dZ.out];exact HO.out,dJ.out,ay.out,HL.out,HR.out,HW.out,ah.out⟩
    case measure=>simp[intOf];omega
   |some e=>
    cases o with
    |none=>
     have Y3:=qJ HO.out.lt (qJ HL.out.lt (qJ HR.out.lt (qJ HW.out.lt (qJ HM.out.lt ah.out.size))));refine dF 166 #[.int .u64 ((e).key:Int),.int .u64 ((e).val:Int),.int .u64 ((e).hash:Int)] ?_;rintro w3 ⟨hnew,hb⟩;obtain⟨xb,hxb⟩:∃xb,xb=w2.heap.size:=⟨_,rfl⟩;rw[←hxb]at hnew⊢
     replace hxb:w2.heap.size≤xb:=by omega
     replace dJ:=qd (dJ.out.mod (Mod.of_below hb []) (by simp));replace ay:=qB hb ay;replace HO:=qB hb HO;replace HL:=qB hb HL;replace HR:=qB hb HR;replace HW:=qB hb HW;replace HM:=qB hb HM;have Y4:=(hb).size;replace ah:=qT ah hb;have HX:=qd (hnew);clear hnew hb;replace HO:=qd (show aj w3 KL 166 #[.int .u64 0,.int .u64 0,.int .u64 0]from HO.out);replace dZ:=qd (show fT y5 (Ts.take (j+1))=some e from dZ.out);have xc:=HX.out.c3;have oc:=HO.out.c3;have of:=HO.out.f3;go_upto_region 9 with fail;have afP:=qJ HO.out.lt (qJ HL.out.lt (qJ HR.out.lt (qJ HW.out.lt (qJ HM.out.lt HX.out.lt))));refine Kc HO.out ?_;rintro w6 ⟨hnew,hm⟩;simp only[pt]at hnew;replace dJ:=qd (dJ.out.mod hm (fun b hb=>by have hh:=hbd b hb;have hh2:=hbw b hb;simp<;>omega));replace ay:=qM hm ay;replace HL:=qM hm HL;replace HR:=qM hm HR;replace HW:=qM hm HW;replace HM:=qM hm HM;replace HX:=qM hm HX;have afQ:=(hm).size;replace ah:=qU ah hm;replace HO:=qd hnew;clear hnew hm;go_wp2;go_roundw
     case rel=>exact⟨j+1,by omega,by go_num,by rw[dZ.out]<;>rfl,HM.out,by rw[dZ.out];exact HO.out,dJ.out,ay.out,HL.out,HR.out,HW.out,ah.out⟩
     case measure=>simp[intOf];omega
    |some b2=>
     cases hlb:bF e b2 with
     |true=>
      have Y3:=qJ HO.out.lt (qJ HL.out.lt (qJ HR.out.lt (qJ HW.out.lt (qJ HM.out.lt ah.out.size))));refine dF 166 #[.int .u64 ((e).key:Int),.int .u64 ((e).val:Int),.int .u64 ((e).hash:Int)] ?_;rintro w3 ⟨hnew,hb⟩;obtain⟨xb,hxb⟩:∃xb,xb=w2.heap.size:=⟨_,rfl⟩;rw[←hxb]at hnew⊢
      replace hxb:w2.heap.size≤xb:=by omega
      replace dJ:=qd (dJ.out.mod (Mod.of_below hb []) (by simp));replace ay:=qB hb ay;replace HO:=qB hb HO;replace HL:=qB hb HL;replace HR:=qB hb HR;replace HW:=qB hb HW;replace HM:=qB hb HM;have Y4:=(hb).size;replace ah:=qT ah hb;have HX:=qd (hnew);clear hnew hb;replace HO:=qd (show aj w3 KL 166 #[.int .u64 ((b2).key:Int),.int .u64 ((b2).val:Int),.int .u64 ((b2).hash:Int)]from HO.out);have VJ:=qd (show fT y5 (Ts.take (j+1))=some e from by rw[dZ.out];show(if bF e b2 then some e else some b2)=_;rw[hlb];rfl);clear dZ;have dZ:=VJ;clear VJ;have xW:=qd (fun V:World=>jU e b2 V);rw[hlb]at xW;unfold aP at xW;clear hlb;have xc:=HX.out.c3;have oc:=HO.out.c3;go_wp2_with fail;refine((xW.out w3)).mono ?_;rintro x w5 ⟨rfl,hb⟩;clear xc oc;replace dJ:=qd (dJ.out.mod (Mod.of_below hb []) (by simp));replace ay:=qB hb ay;replace HO:=qB hb HO;replace HL:=qB hb HL;replace HR:=qB hb HR;replace HW:=qB hb HW;replace HM:=qB hb HM;replace HX:=qB hb HX;have aea:=(hb).size;replace ah:=qT ah hb;clear hb;have xc:=HX.out.c3;have oc:=HO.out.c3;have of:=HO.out.f3;go_upto_region 9 with fail;have afR:=qJ HO.out.lt (qJ HL.out.lt (qJ HR.out.lt (qJ HW.out.lt (qJ HM.out.lt HX.out.lt))));refine Kc HO.out ?_;rintro w6 ⟨hnew,hm⟩;simp only[pt]at hnew;replace dJ:=qd (dJ.out.mod hm (fun b hb=>by have hh:=hbd b hb;have hh2:=hbw b hb;simp<;>omega));replace ay:=qM hm ay;replace HL:=qM hm HL;replace HR:=qM hm HR;replace HW:=qM hm HW;replace HM:=qM hm HM;replace HX:=qM hm HX;have afS:=(hm).size;replace ah:=qU ah hm
      replace HO:=qd hnew;clear hnew hm;go_wp2;go_roundw
      case rel=>exact⟨j+1,by omega,by go_num,by rw[dZ.out]<;>rfl,HM.out,by rw[dZ.out];exact HO.out,dJ.out,ay.out,HL.out,HR.out,HW.out,ah.out⟩
      case measure=>simp[intOf];omega
     |false=>
      have Y3:=qJ HO.out.lt (qJ HL.out.lt (qJ HR.out.lt (qJ HW.out.lt (qJ HM.out.lt ah.out.size))));refine dF 166 #[.int .u64 ((e).key:Int),.int .u64 ((e).val:Int),.int .u64 ((e).hash:Int)] ?_;rintro w3 ⟨hnew,hb⟩;obtain⟨xb,hxb⟩:∃xb,xb=w2.heap.size:=⟨_,rfl⟩;rw[←hxb]at hnew⊢
      replace hxb:w2.heap.size≤xb:=by omega
      replace dJ:=qd (dJ.out.mod (Mod.of_below hb []) (by simp));replace ay:=qB hb ay;replace HO:=qB hb HO;replace HL:=qB hb HL;replace HR:=qB hb HR;replace HW:=qB hb HW;replace HM:=qB hb HM;have Y4:=(hb).size;replace ah:=qT ah hb;have HX:=qd (hnew);clear hnew hb;replace HO:=qd (show aj w3 KL 166 #[.int .u64 ((b2).key:Int),.int .u64 ((b2).val:Int),.int .u64 ((b2).hash:Int)]from HO.out);have VJ:=qd (show fT y5 (Ts.take (j+1))=some b2 from by rw[dZ.out];show(if bF e b2 then some e else some b2)=_;rw[hlb];rfl);clear dZ;have dZ:=VJ;clear VJ;have xW:=qd (fun V:World=>jU e b2 V);rw[hlb]at xW;unfold aP at xW;clear hlb;have xc:=HX.out.c3;have oc:=HO.out.c3;go_wp2_with fail;refine((xW.out w3)).mono ?_;rintro x w5 ⟨rfl,hb⟩;clear xc oc;replace dJ:=qd (dJ.out.mod (Mod.of_below hb []) (by simp));replace ay:=qB hb ay;replace HO:=qB hb HO;replace HL:=qB hb HL;replace HR:=qB hb HR;replace HW:=qB hb HW;replace HM:=qB hb HM;replace HX:=qB hb HX;have aea:=(hb).size;replace ah:=qT ah hb;clear hb;go_wp2;go_roundw
      case rel=>exact⟨j+1,by omega,by go_num,by rw[dZ.out]<;>rfl,HM.out,by rw[dZ.out];exact HO.out,dJ.out,ay.out,HL.out,HR.out,HW.out,ah.out⟩
      case measure=>simp[intOf];omega
  ·obtain rfl:j=fr.length+1:=by omega
   have hlt':¬((fr.length+1:Nat):Int)<((fr.length+1:Nat):Int):=by omega
   have htk:Ts.take (fr.length+1)=Ts:=List.take_of_length_le (by omega);rw[htk]at hO hM⊢;clear htk;obtain⟨b,hbe⟩:∃b,b=(fT y5 Ts).getD ⟨0,0,0⟩:=⟨_,rfl⟩;have HM:=qd (hM);have HO:=qd (show aj wr KL _ #[.int .u64 ((b).key:Int),.int .u64 ((b).val:Int),.int .u64 ((b).hash:Int)]from by rw[hbe];exact hO);have HR:=qd (hR);have ah:=qd (hm);have p9:=qd hbe;clear hM hO hTs hE hL hR hW hm hbe;have oc:=HO.out.c3;have rc:=HR.out.c3;have rf:=HR.out.f3;go_wp2;have q1:=qJ HM.out.lt (qJ HO.out.lt HR.out.lt);refine Kc HR.out ?_;rintro w9 ⟨hnew,hm⟩;simp only[pt]at hnew;replace HM:=qM hm HM;replace HO:=qM hm HO;have z4:=(hm).size;replace ah:=qU ah hm;replace HR:=qd hnew;clear hnew hm;have rx:=HR.out.c3;refine bodyPost_ret (v:= .tuple #[.agg #[.int .u64 ((b).key:Int),.int .u64 ((b).val:Int),.int .u64 ((b).hash:Int)],.bool (fT y5 Ts).isSome]) (by simp[results,Tryz.results238,go_sem,rx.1,rx.2.1,rx.2.2]) rfl ⟨by rw[p9.out],HM.out,ah.out⟩
end
theorem S9 (rb cap:Nat)(ts:List Nat)(hn:1≤ts.length∧ts.length≤2)(w:World)(h:fA w rb ts):
  Calls Tryz.prog 316 #[.slice (some ⟨rb,0,none⟩) ts.length cap] w fun e w'=>∃vR c',w.heap.size≤vR∧e= .returned (.slice (some ⟨vR,0,none⟩) ts.length c')∧fA w' vR ts∧Below w.heap.size w w':=by
 have HR:=qd h.reads;obtain⟨n1,n2⟩:=hn
 have hnn:(Go.binOp .eql 298 (.slice (some ⟨rb,0,none⟩) ts.length cap) (.slice none 0 0)).run Tryz.prog w= .ok (.bool false) w:=by first|rfl|kernel_rfl|simp[Go.binOp,go_sem]
 clear h;go_in;go_wp2_with (at_builtin;refine wT rfl rfl lu (World.ownsRow_lit w #[] 0 (Nat.le_refl _) (by simp) rfl) rfl rfl (HR.out.alloc (Nat.le_refl _) _) (xY ts) (by omega) (by simp) ?_;intro v4 w4 dG hg4);rw[Nat.zero_add]at dG;obtain⟨A4,c4,rfl⟩:=bA dG;go_ret;obtain⟨vR,rfl,Gi,hrow,_⟩:=fA.fD (show w4.ownsRow w.heap.size 184 1 (.slice A4 ts.length c4) ts.length (ptrs ts)from by simpa using dG) (by omega);have hB:Below w.heap.size w w4:=((Below.refl _ _).alloc (Nat.le_refl _) _).trans hg4.below
 first|exact⟨vR,Gi,⟨_,rfl⟩,hrow,hB⟩|exact⟨vR,_,Gi,rfl,hrow,hB⟩
theorem Y5 (tb rb cap depth:Nat)(ts:List Nat)(hn:1≤ts.length∧ts.length≤2)(hd:depth≤15)(w:World)(h:fA w rb ts):
  Calls Tryz.prog 313 #[pQ tb,nI depth,.slice (some ⟨rb,0,none⟩) ts.length cap] w fun e w'=>∃eb vb c2,w.heap.size≤eb∧w.heap.size≤vb∧eb≠vb∧e= .returned (.tuple #[pQ eb,.nilIface])∧lS w' eb tb vb c2 ts depth 0∧Below w.heap.size w w':=by
 obtain⟨n1,n2⟩:=hn;have HC:=qd (contains_nil rb cap ts n2 w h);have HK:=qd (S9 rb cap ts ⟨n1,n2⟩ w h)
 have hnl:ts.length=1∨ts.length=2:=by omega
 have hd0:¬(depth:Int)<0:=by omega
 have hd1:¬(depth:Int)>15:=by omega
 clear h;obtain⟨n,hnn⟩:∃n,n=ts.length:=⟨_,rfl⟩;have HNn:=qd hnn;rw[←hnn]at HC HK hnl n1 n2;simp only[←hnn];clear hnn;rcases hnl with rfl|rfl
 all_goals
  go_in;go_wp2_with fail;refine(HC.out).mono ?_;rintro y w1 ⟨rfl,rfl⟩;go_wp2_with fail;refine(HK.out).mono ?_;rintro y w2 ⟨vb,c2,hvb,rfl,hrow,hb⟩;have hvl:=hrow.lt;have VK:=qd (aj.new w2 330 #[pQ tb,.slice (some ⟨vb,0,none⟩) ts.length c2,nI depth,.int .i64 0]);have HE:=qd (And.intro (hrow.mod (Mod.of_below ((Below.refl w2.heap.size w2).alloc (Nat.le_refl _) (.cells #[pQ tb,.slice (some ⟨vb,0,none⟩) ts.length c2,nI depth,.int .i64 0] 330)) []) (by simp)) (hb.alloc hb.size (.cells #[pQ tb,.slice (some ⟨vb,0,none⟩) ts.length c2,nI depth,.int .i64 0] 330)));rw[←HNn.out]at VK HE;have hbs:=hb.size;clear hrow hb;go_wp2;refine bodyPost_ret (v:= .tuple #[pQ w2.heap.size,.nilIface]) (by simp[results,Tryz.results313,go_sem]) rfl ?_;have KM:lS (w2.alloc (.cells #[pQ tb,.slice (some ⟨vb,0,none⟩) _ c2,nI depth,.int .i64 0] 330)) w2.heap.size tb vb c2 ts depth 0:=⟨by rw[←HNn.out];exact VK.out,HE.out.1⟩
  first|exact⟨w2.heap.size,vb,c2,hbs,hvb,by omega,rfl,KM,HE.out.2⟩|exact⟨w2.heap.size,hbs,vb,hvb,by omega,rfl,c2,KM,HE.out.2⟩
section
variable {w w' : World} {α : Type} {j n : Nat} {bl : List (Nat × Nat × Nat)}
theorem lT {B:Nat}(h:Below B w w'):Mod (List.range' B (w.heap.size-B)) w w':=
 ⟨h.os,h.tape,h.output,h.size,fun k hk hn=>h.block k (by simp[List.mem_range'_1]at hn;omega)⟩
theorem Bw {f:α→List Nat}{l:List α}(h:(l.flatMap f).Nodup){i:Nat}{a b:α}(hi:l[i]?=some a)(hj:l[j]?=some b)(hne:i≠j):∀x∈f a,x∉f b:=by
 obtain⟨hi',rfl⟩:=List.getElem?_eq_some_iff.1 hi;obtain⟨hj',rfl⟩:=List.getElem?_eq_some_iff.1 hj;have hp:=List.pairwise_iff_getElem.1 (List.pairwise_flatMap.1 h).2;intro x hx hy;rcases Nat.lt_or_ge i j with hlt|hge
 ·exact hp i j hi' hj' hlt x hx x hy rfl
 ·exact hp j i hj' hi' (by omega) x hy x hx rfl
theorem Y6 {f:α→List Nat}{l:List α}(h:(l.flatMap f).Nodup){a:α}(ha:a∈l):(f a).Nodup:=(List.pairwise_flatMap.1 h).1 a ha
structure xZ (w:World)(bl:List (Nat×Nat×Nat))(n j:Nat):Prop where
 Ir:∀(i:Nat) (b:Nat×Nat×Nat),bl[i]?=some b→j≤i→fH w b.1 b.2.1 b.2.2 n n
 done:∀(i:Nat) (b:Nat×Nat×Nat),bl[i]?=some b→i<j→aj w b.1 337 #[.pointer none,nI n,nI n]
 tabs:∀(i:Nat) (b:Nat×Nat×Nat),bl[i]?=some b→TabAt w b.2.1 b.2.2 (dR n n)
theorem xZ.mod {S:List Nat}(h:xZ w bl n j)(hm:Mod S w w')(hs:∀b∈bl,b.1∉S∧b.2.1∉S∧b.2.2∉S):xZ w' bl n j:=
 ⟨fun i b hb hj=>by obtain⟨h1,h2,h3⟩:=hs b (List.mem_of_getElem? hb);exact(h.Ir i b hb hj).mod hm h1 h2 h3,
  fun i b hb hj=>(h.done i b hb hj).mod hm (hs b (List.mem_of_getElem? hb)).1,
  fun i b hb=>(h.tabs i b hb).mod hm (hs b (List.mem_of_getElem? hb)).2.1 (hs b (List.mem_of_getElem? hb)).2.2⟩
def bB (b:Nat×Nat×Nat):List Nat:=[b.1,b.2.1,b.2.2]
def iy (bl:List (Nat×Nat×Nat)):List (Nat×Nat):=bl.map fun b=>(b.2.1,b.2.2)
theorem zF:∀bl:List (Nat×Nat×Nat),(bl.flatMap bB).Perm (bl.map (fun b=>b.1)++fM (iy bl))
 | []=> .refl _
 |b::t=>by
  have h:=zF t
  have h1:((b::t).flatMap bB)=b.1::([b.2.1,b.2.2]++t.flatMap bB):=by simp[bB]
  have h2:((b::t).map (fun b=>b.1)++fM (iy (b::t)))=b.1::(t.map (fun b=>b.1)++([b.2.1,b.2.2]++fM (iy t))):=by simp[fM,iy]
  rw[h1,h2];refine List.Perm.cons _ ((h.append_left _).trans ?_);rw[←List.append_assoc,←List.append_assoc];exact List.perm_append_comm.append_right _
theorem y7 {q:Nat}(h:q∈bl.map (fun b=>b.1)++fM (iy bl)):q∈bl.flatMap bB:=(zF bl).mem_iff.2 h
theorem Iu (bl:List (Nat×Nat×Nat)):(iy bl).map Prod.fst=bl.map fun b=>b.2.1:=by simp[iy]
theorem xZ.take (h:xZ w bl n j)(hnd:(bl.flatMap bB).Nodup){b:Nat×Nat×Nat}(hb:bl[j]?=some b)(hk:aj w' b.1 337 #[.pointer none,nI n,nI n])(hm:Mod [b.1] w w'):xZ w' bl n (j+1):=by
 have ap:∀(i:Nat) (c:Nat×Nat×Nat),bl[i]?=some c→i≠j→c.1≠b.1∧c.2.1≠b.1∧c.2.2≠b.1:=fun i c hc hne=>by
  have hf:=Bw hnd hc hb hne;have h1:=hf c.1 (by simp[bB]);have h2:=hf c.2.1 (by simp[bB]);have h3:=hf c.2.2 (by simp[bB]);simp[bB]at h1 h2 h3;exact⟨h1.1,h2.1,h3.1⟩
 have hb3:=Y6 hnd (List.mem_of_getElem? hb);simp[bB]at hb3;refine⟨fun i c hc hj=> ?_,fun i c hc hj=> ?_,fun i c hc=> ?_⟩
 ·obtain⟨h1,h2,h3⟩:=ap i c hc (by omega);exact(h.Ir i c hc (by omega)).mod hm (by simpa using h1) (by simpa using h2) (by simpa using h3)
 ·by_cases hij:i=j
  ·subst hij;rw[hb]at hc;cases hc;exact hk
  ·exact(h.done i c hc (by omega)).mod hm (by simpa using(ap i c hc hij).1)
 ·by_cases hij:i=j
  ·subst hij;rw[hb]at hc;cases hc;exact(h.tabs _ _ hb).mod hm (by simp;omega) (by simp;omega)
  ·obtain⟨h1,h2,h3⟩:=ap i c hc hij;exact(h.tabs i c hc).mod hm (by simpa using h2) (by simpa using h3)
theorem xZ.acg (h:xZ w bl n j)(hnd:(bl.flatMap bB).Nodup):iw w (iy bl) (List.replicate bl.length (dR n n)):=by
 refine⟨by simp[iy],fun i b T hb hT=> ?_,fun i k b c hb hc hne=> ?_⟩
 ·unfold iy at hb;rw[List.getElem?_map]at hb;obtain⟨x,hx,rfl⟩:=Option.map_eq_some_iff.1 hb;have:=List.mem_of_getElem? hT;rw[(List.mem_replicate.1 this).2];exact h.tabs i x hx
 ·unfold iy at hb hc;rw[List.getElem?_map]at hb hc;obtain⟨x,hx,rfl⟩:=Option.map_eq_some_iff.1 hb;obtain⟨y,hy,rfl⟩:=Option.map_eq_some_iff.1 hc;have hf:=Bw hnd hx hy hne;have h1:=hf x.2.1 (by simp[bB]);have h2:=hf x.2.2 (by simp[bB]);simp[bB]at h1 h2;exact⟨h1.2.1,h1.2.2,h2.2.1,h2.2.2⟩
theorem VL {f:α→Nat}{l:List α}{b:α}(h:l[j]?=some b):ptrs ((l.take j).map f)++[.pointer (some ⟨f b,0,none⟩)]=ptrs ((l.take (j+1)).map f):=by
 rw[rO h,List.map_append];simp[ptrs]
theorem Ta (db rb cap ob og:Nat)(bl:List (Nat×Nat×Nat))(T:aC)(n depth:Nat)(adC:1≤bl.length∧bl.length≤2)(aaw:depth≤15)(ach:Pw n)(hnd:(bH db rb ob og bl).Nodup)(w:World)(hblk:aj w db 301 #[pQ ob,nI depth,.slice (some ⟨rb,0,none⟩) bl.length cap,.slice none 0 0,.pointer none,.bool false])(hrow:fA w rb (bl.map fun b=>b.1))(htab:TabAt w ob og T)(hbl:xZ w bl n 0):
  Calls Tryz.prog 304 #[bX db] w fun e w'=>e= .returned undef∧∃fb bY eb vb cK,oW w' db rb cap ob og fb bY eb vb cK (bl.map fun b=>b.1) (iy bl) T (List.replicate bl.length (dR n n)) n depth 0∧w.heap.size≤fb∧w.heap.size≤eb∧w.heap.size≤vb∧Mod (bH db rb ob og bl) w w':=by
 obtain⟨n1,n2⟩:=adC;unfold bH at hnd;simp only[List.nodup_cons,List.mem_cons,not_or]at hnd;obtain⟨⟨hd1,hd2,hd3,hd4⟩,⟨hr1,hr2,hr3⟩,⟨ho1,ho2⟩,hg1,hnd'⟩:=hnd;have Mw:∀b∈bl,∀q,q=b.1∨q=b.2.1∨q=b.2.2→q∈bl.flatMap fun b=> [b.1,b.2.1,b.2.2]:=fun b hb q hq=>List.mem_flatMap.2 ⟨b,hb,by simpa using hq⟩
 have hne:∀b∈bl,db≠b.1∧db≠b.2.1∧db≠b.2.2∧rb≠b.1∧rb≠b.2.1∧rb≠b.2.2∧ob≠b.1∧ob≠b.2.1∧ob≠b.2.2∧og≠b.1∧og≠b.2.1∧og≠b.2.2∧b.1<w.heap.size∧b.2.1<w.heap.size∧b.2.2<w.heap.size:=fun b hb=>by
  have m1:=Mw b hb b.1 (.inl rfl);have m2:=Mw b hb b.2.1 (.inr (.inl rfl));have m3:=Mw b hb b.2.2 (.inr (.inr rfl));obtain⟨i,hi⟩:=List.getElem?_of_mem hb;have hl:=hbl.Ir i b hi (Nat.zero_le _);exact⟨fun e=>hd4 (e▸m1),fun e=>hd4 (e▸m2),fun e=>hd4 (e▸m3),fun e=>hr3 (e▸m1),fun e=>hr3 (e▸m2),fun e=>hr3 (e▸m3),fun e=>ho2 (e▸m1),fun e=>ho2 (e▸m2),fun e=>ho2 (e▸m3),fun e=>hg1 (e▸m1),fun e=>hg1 (e▸m2),fun e=>hg1 (e▸m3),hl.lt,hl.aT,hl.aU⟩
 have NY:=qd (show(bl.flatMap bB).Nodup from hnd');have Dw:=qd aaw;have KN:=qd ach;clear hnd' Mw hd4 hr3 ho2 hg1 aaw ach;have HD:=qd (hblk);have HR:=qd (hrow);have HT:=qd (htab);have HB:=qd (hbl);have ah:=qd (Mod.refl (bH db rb ob og bl) w);have q1:=qJ HD.out.lt (qJ HR.out.lt (qJ HT.out.aT HT.out.aU));clear hblk hrow htab hbl;unfold bX;go_in;have dc:=HD.out.c6;go_wp2;clear dc;go_loopw [3,9] (fun _ i wr=>∃j:Nat,j≤bl.length∧i= .int .i64 j∧∃v,aj wr db 301 #[pQ ob,nI depth,.slice (some ⟨rb,0,none⟩) bl.length cap,v,.pointer none,.bool false]∧wr.ownsRow w.heap.size 184 1 v j (ptrs ((bl.take j).map fun b=>b.2.1))∧fA wr rb (bl.map fun b=>b.1)∧TabAt wr ob og T∧xZ wr bl n j∧Mod (bH db rb ob og bl) w wr) (fun _ i _=>bl.length-(intOf i).toNat)
 case atStart=>exact⟨0,by omega,rfl,_,HD.out,by simpa[ptrs]using World.ownsRow_nil w w.heap.size _ 1,HR.out,HT.out,HB.out,ah.out⟩
 case round=>
  clear HD HR HT HB ah;obtain⟨j,hj,rfl,v,hD,hO,hR,hT,hB,hm⟩:=hrel;obtain⟨A,vc,rfl⟩:=bA hO;by_cases hlt:j<bl.length
  ·have hlt':(j:Int)<(bl.length:Int):=by omega
   have hj0:(0:Int)≤(j:Int):=by omega
   obtain⟨b,hb⟩:∃b,bl[j]?=some b:=⟨_,List.getElem?_eq_getElem hlt⟩;have oV:=List.mem_of_getElem? hb;have hbb:=hne b oV;have hrw:=hR.at_ j b.1 (by rw[List.getElem?_map,hb];rfl);have HPs:=qd (VL (f:=fun b:Nat×Nat×Nat=>b.2.1) hb);have Fe:=qd hb;clear hb;have HD:=qd (hD);have HR:=qd (hR);have HT:=qd (hT);have HB:=qd (hB);have HO:=qd (hO);have ah:=qd (hm);clear hD hO hR hT hB hm;have z1:=qJ ah.out.size (qJ HD.out.lt (qJ HR.out.lt (qJ HT.out.aT HT.out.aU)));go_upto_region 3 with fail;have dc:=HD.out.c6;refine rT (fun(w':World)=>w'.cell? ⟨db,3,none⟩=some (.slice A j vc)) [14] ?_;have hHeld:=dc.2.2.2.1;refine vW 0 rfl ?_;refine vW 1 rfl ?_;refine vW 2 rfl ?_;refine vW 3 rfl ?_;refine vT 4 rfl ?_;refine vW 5 rfl ?_;refine nT 6 rfl fun K hK=> ?_;go_simp;have vI:=qd (SN b.1 b.2.1 b.2.2 n wr.drew (((HB.out.Ir j b Fe.out (Nat.le_refl _)).mod (Mod.drewN [] wr 1) (by simp) (by simp) (by simp))));unfold ou bU at vI;refine(vI.out).mono ?_;rintro y w1 ⟨rfl,hk1,_,hm⟩;replace hm:Mod [b.1] wr w1:=(Mod.drewN [b.1] wr 1).then hm;have hB1:=HB.out.take NY.out Fe.out hk1 hm;clear vI HB hk1;have hm0:Mod (bH db rb ob og bl) wr w1:=hm.more (by intro q hq;simp at hq;subst hq;exact(vK oV).1);have VA:=ah;clear ah;have ah:=qd (Mod.refl [b.1] wr);clear hrw dc;replace HD:=qM hm HD;replace HR:=qM hm HR;replace HT:=qM hm HT;replace HO:=qM hm HO;have z6:=(hm).size;replace ah:=qd (ah.out.trans hm (fun _ hh _=>hh) (by intro k hk hl;simp at hk⊢<;>omega));clear ah;have ah:=qd (VA.out.then hm0);clear VA hm0 hm
   have HB:=qd hB1;clear hB1;have dc:=HD.out.c6;go_wp2_with fail;have hHeld:=dc.2.2.2.1;refine kO hK ?_;clear hK K;refine vW 7 rfl ?_;refine vW 8 rfl ?_;refine nT 9 rfl fun K hK=> ?_;go_simp;refine(YR (some ⟨b.2.1,0,none⟩) w1).mono ?_;rintro y w2 ⟨rfl,rfl⟩;go_wp2_with fail;have hHeld:=dc.2.2.2.1;refine kO hK ?_;clear hK K;refine nT 10 rfl fun K hK=> ?_;go_simp;have q7:=qJ HD.out.lt (qJ HR.out.lt (qJ HT.out.aT (qJ HT.out.aU ah.out.size)));refine dF 184 #[pQ b.2.1] ?_;rintro w3 ⟨hnew,hb⟩;obtain⟨xb,hxb⟩:∃xb,xb=w1.heap.size:=⟨_,rfl⟩;rw[←hxb]at hnew⊢
   replace hxb:w1.heap.size≤xb:=by omega
   clear dc;replace HD:=qB hb HD;replace HR:=qB hb HR;replace HT:=qB hb HT;replace HO:=qB hb HO;replace HB:=qd (HB.out.mod (Mod.of_below hb []) (by simp));have z12:=(hb).size;replace ah:=qT ah hb;have HX:=qd (hnew);clear hnew hb;have dc:=HD.out.c6;have xc0:=HX.out.cell 0;simp only[List.getElem?_toArray,List.getElem?_cons_zero]at xc0;have hHeld:=dc.2.2.2.1;refine kO hK ?_;clear hK K;refine nT 11 rfl fun K hK=> ?_;refine eB (by rfl) (by rfl) lu HO.out (by rfl) (by rfl) (rF (size:=1) (m:=1) HX.out (by rfl)) (by rfl) (by omega) (by have:=ah.out.size;omega) ?_;intro v4 w4 dG ig;have hown5:w4.ownsRow w.heap.size 184 1 v4 (j+1) (ptrs ((bl.take (j+1)).map fun b=>b.2.1)):=HPs.out▸dG;clear dG;obtain⟨A4,vc4,rfl⟩:=bA hown5;have hb4:=ig.below;clear HX HO dc xc0;replace HD:=qd (HD.out.mod (lT hb4) (by simp[List.mem_range'_1]<;>omega));replace HR:=qd (HR.out.mod (lT hb4) (by simp[List.mem_range'_1]<;>omega));replace HT:=qd (HT.out.mod (lT hb4) (by simp[List.mem_range'_1]<;>omega) (by simp[List.mem_range'_1]<;>omega));replace HB:=qd (HB.out.mod (lT hb4) (fun b hb=>by have hh:=hne b hb;simp[List.mem_range'_1]<;>omega));have z13:=(hb4).size;replace ah:=qd (ah.out.trans (lT hb4) (fun _ hh _=>hh) (by intro k hk hl;simp[List.mem_range'_1]at hk;omega));have HO:=qd hown5;clear hown5 hb4;have dc:=HD.out.c6;have df:=HD.out.f6;have hHeld:=dc.2.2.2.1;refine kO hK ?_;clear hK K;refine vW 12 rfl ?_;refine vW 13 rfl ?_;refine nT 14 rfl fun K hK=> ?_;go_simp;refine kO hK ?_;clear hK K
   refine aR (by kernel_rfl) ?_ _;have q14:=qJ HD.out.lt (qJ HR.out.lt (qJ HT.out.aT HT.out.aU));refine Hu HD.out ?_;rintro w5 ⟨hnew,hm⟩;simp only[pt]at hnew;replace HR:=qM hm HR;replace HT:=qM hm HT;replace HB:=qd (HB.out.mod hm (fun b hb=>by have hh:=hne b hb;simp<;>omega));replace HO:=qM hm HO;have z18:=(hm).size;replace ah:=qd (ah.out.trans hm (fun _ hh _=>hh) (by intro k hk hl;simp[bH]at hk⊢<;>omega));replace HD:=qd hnew;clear hnew hm;go_wp2;go_roundw
   case rel=>exact⟨j+1,by omega,by go_num,_,HD.out,HO.out,HR.out,HT.out,HB.out,ah.out⟩
   case measure=>simp[intOf];omega
  ·obtain rfl:j=bl.length:=by omega
   have hlt':¬(bl.length:Int)<(bl.length:Int):=by omega
   rw[List.take_length]at hO;obtain⟨fb,rfl,pX,hfr,_⟩:=fA.fD hO (by omega);have HD:=qd (hD);have HR:=qd (hR);have HT:=qd (hT);have HB:=qd (hB);have HF:=qd (hfr);have ah:=qd (hm);clear hD hO hR hT hB hfr hm;have z1:=qJ ah.out.size (qJ HD.out.lt (qJ HR.out.lt (qJ HT.out.aT (qJ HT.out.aU HF.out.lt))));go_upto_region 5 with fail;have dc:=HD.out.c6;have VN:=qd (Y5 ob fb vc depth (bl.map fun b:Nat×Nat×Nat=>b.2.1) (by rw[List.length_map];exact⟨n1,n2⟩) Dw.out wr.drew (HF.out.mod (Mod.drewN [] wr 1) (by simp)));rw[List.length_map]at VN;refine rT (fun(w':World)=>w'.cell? ⟨db,0,none⟩=some (pQ ob)∧w'.cell? ⟨db,1,none⟩=some (nI depth)∧w'.cell? ⟨db,3,none⟩=some (.slice (some ⟨fb,0,none⟩) bl.length vc)) [19] ?_;have hHeld:=(⟨dc.1,dc.2.1,dc.2.2.2.1⟩:_∧_∧_);refine vW 0 rfl ?_;refine vW 1 rfl ?_;refine vW 2 rfl ?_;refine vW 3 rfl ?_;refine vT 4 rfl ?_;refine vW 5 rfl ?_;refine vW 6 rfl ?_;refine vW 7 rfl ?_;refine vT 8 rfl ?_;refine vW 9 rfl ?_;refine vW 10 rfl ?_;refine vW 11 rfl ?_;refine vT 12 rfl ?_;refine nT 13 rfl fun K hK=> ?_;go_simp;refine(VN.out).mono ?_;rintro y w1 ⟨eb,vb,c2,Fh,hvb,hev,rfl,KM,hb⟩;replace hb:Below wr.heap.size wr w1:=bP hb (Below.refl _ _).drew;replace Fh:wr.heap.size≤eb:=Fh;replace hvb:wr.heap.size≤vb:=hvb;clear VN dc;replace HD:=qB hb HD;replace HR:=qB hb HR;replace HT:=qB hb HT;replace HB:=qd (HB.out.mod (Mod.of_below hb []) (by simp));replace HF:=qB hb HF;have z7:=(hb).size;replace ah:=qT ah hb;have HE:=qd (KM);clear KM hb;have dc:=HD.out.c6;go_wp2_with fail
   have hHeld:=(⟨dc.1,dc.2.1,dc.2.2.2.1⟩:_∧_∧_);refine kO hK ?_;clear hK K;refine vW 14 rfl ?_;refine vW 15 rfl ?_;refine nT 16 rfl fun K hK=> ?_;go_simp;refine(Vw (some ⟨eb,0,none⟩) w1).mono ?_;rintro y w2 ⟨rfl,rfl⟩;go_wp2_with fail;have hHeld:=(⟨dc.1,dc.2.1,dc.2.2.2.1⟩:_∧_∧_);refine kO hK ?_;clear hK K;refine vW 17 rfl ?_;refine vW 18 rfl ?_;refine nT 19 rfl fun K hK=> ?_;have dc:=HD.out.c6;have df:=HD.out.f6;go_simp;refine kO hK ?_;clear hK K;refine aR (by kernel_rfl) ?_ _;have q8:=qJ HD.out.lt (qJ HR.out.lt (qJ HT.out.aT (qJ HT.out.aU (qJ HF.out.lt (qJ HE.out.lt HE.out.qc)))));refine Hu HD.out ?_;rintro w3 ⟨hnew,hm⟩;simp only[pt]at hnew;replace HR:=qM hm HR;replace HT:=qM hm HT;replace HB:=qd (HB.out.mod hm (fun b hb=>by have hh:=hne b hb;simp<;>omega));replace HF:=qM hm HF;replace HE:=qM hm HE;have z15:=(hm).size;replace ah:=qd (ah.out.trans hm (fun _ hh _=>hh) (by intro k hk hl;simp[bH]at hk⊢<;>omega));replace HD:=qd hnew;clear hnew hm;have aci:=NY.out;have hd4:∀b∈bl,_:=hne
   have VO:oW w3 db rb cap ob og fb vc eb vb c2 (bl.map fun b=>b.1) (iy bl) T (List.replicate bl.length (dR n n)) n depth 0:=by
    have hlt1:(bl.map fun b=>b.1).length=bl.length:=List.length_map ..;have hlt2:(iy bl).length=bl.length:=List.length_map ..;refine⟨by rw[hlt1,hlt2];exact HD.out,HR.out,fun q hq=> ?_,by rw[Iu];exact HF.out,by rw[Iu];exact HE.out,HT.out,HB.out.acg aci,KN.out,by rw[hlt2];exact⟨n1,n2⟩,by rw[hlt1,hlt2],Dw.out, ?_⟩
    ·obtain⟨b,hb,rfl⟩:=List.mem_map.1 hq;obtain⟨i,hi⟩:=List.getElem?_of_mem hb;exact HB.out.done i b hi (List.getElem?_eq_some_iff.1 hi).1
    ·have hlow:∀q∈bl.map (fun b=>b.1)++fM (iy bl),q<w.heap.size∧db≠q∧rb≠q∧ob≠q∧og≠q:=fun q hq=>by
      obtain⟨b,hb,Aj⟩:=List.mem_flatMap.1 (y7 hq);have hh:=hne b hb;simp[bB]at Aj
      rcases Aj with rfl|rfl|rfl<;>omega
     unfold aW;simp only[List.nodup_cons,List.mem_cons,not_or]
     have hz:∀q,(q=db∨q=rb∨q=ob∨q=og∨w.heap.size≤q)→q∉bl.map (fun b=>b.1)++fM (iy bl):=fun q hq hm=>by
      have:=hlow q hm;omega
     refine⟨⟨by omega,by omega,by omega,by omega,by omega,by omega,hz _ (by omega)⟩,⟨by omega,by omega,by omega,by omega,by omega,hz _ (by omega)⟩,⟨by omega,by omega,by omega,by omega,hz _ (by omega)⟩,⟨by omega,by omega,by omega,hz _ (by omega)⟩,⟨by omega,by omega,hz _ (by omega)⟩,⟨by omega,hz _ (by omega)⟩,hz _ (by omega),(zF bl).nodup_iff.1 aci⟩
   go_wp2;go_end0
   first|exact⟨rfl,fb,vc,eb,vb,⟨c2,VO⟩,pX,by omega,by omega,ah.out⟩|exact⟨rfl,fb,vc,eb,vb,c2,VO,pX,by omega,by omega,ah.out⟩
end
theorem LU {W0:World}{E:Nat→Addr}(db rb cap ob og fb bY eb vb cK:Nat)(bI:List Nat)(bs:List (Nat×Nat))(T:aC)(Ts:List aC)(n depth next:Nat)(P:MP)(x:bL)(w:World)(h:oW w db rb cap ob og fb bY eb vb cK bI bs T Ts n depth next)
  (hok:mg T) (hn:next<T.gs.length) (hfit:Fits bs.length depth Ts (bT (T.gs.getD next []))) (hM:aN w P x) (hE:Env W0 E w) (oz:P.mb∉aW db rb fb eb vb ob og bI bs) (hb0:W0.heap.size≤P.mb) (hbf:∀q∈aW db rb fb eb vb ob og bI bs,W0.heap.size≤q):
  Calls Tryz.prog 301 #[bX db,.pointer (some ⟨P.mb,P.mo,none⟩)] w fun e w'=>e= .returned (.bool true)∧oW w' db rb cap ob og fb bY eb vb cK bI bs (takeN T next 8) (eD bs.length depth ((x.add (cU 1) 1).add cV 1,Ts) (bT (T.gs.getD next []))).2 n depth (next+1)∧aN w' P (eD bs.length depth ((x.add (cU 1) 1).add cV 1,Ts) (bT (T.gs.getD next []))).1∧Mod (P.mb::aW db rb fb eb vb ob og bI bs) w w':=by
 have hnd:=h.nd;unfold aW at hnd oz hbf;simp only[List.nodup_cons,List.mem_cons,not_or,List.nodup_append,List.mem_append]at hnd oz;obtain⟨⟨d1,d2,d3,d4,d5,d6,d7,d8⟩,⟨r1,r2,r3,r4,r5,r6,r7⟩,⟨f1,f2,f3,f4,f5,f6⟩,⟨e1,e2,e3,e4,e5⟩,⟨v1,v2,v3,v4⟩,⟨o1,o2,o3⟩,⟨g1,g2⟩,hn1,hn2,hn3⟩:=hnd;obtain⟨m1,m2,m3,m4,m5,m6,m7,m8,m9⟩:=oz;have hfl:∀b∈bs,b.1∈fM bs∧b.2∈fM bs:=fun b hb=>⟨dM.2 ⟨b,hb,.inl rfl⟩,dM.2 ⟨b,hb,.inr rfl⟩⟩
 have hS:=Vz (W0:=W0) (E:=E) eb ob og vb cK depth next bs T Ts P x h.many h.deep w h.ev h.tab hok hn h.tabs hfit hM hE
  (fun b hb=>by
   obtain⟨q1,q2⟩:=hfl b hb;simp only[List.mem_cons,List.not_mem_nil,or_false,not_or]
   exact⟨⟨fun e=>m9 (e▸q1),fun e=>e5 (e▸q1),fun e=>v4 (e▸q1),fun e=>o3 (e▸q1),fun e=>g2 (e▸q1)⟩,⟨fun e=>m9 (e▸q2),fun e=>e5 (e▸q2),fun e=>v4 (e▸q2),fun e=>o3 (e▸q2),fun e=>g2 (e▸q2)⟩⟩)
  (by simp;omega) (by simp;omega) (by simp;omega) hb0 (hbf _ (by simp)) (hbf _ (by simp)) (hbf _ (by simp)) (fun b hb=>⟨hbf _ (by simp[hfl b hb]),hbf _ (by simp[hfl b hb])⟩)
 have bc3:=h.blk.cell 3;have bc4:=h.blk.cell 4;simp only[gl]at bc3 bc4;have nu:=qd (uK db fb bs.length bY w bc3);have HS:=qd hS;have HH:=qd h;unfold bX at nu⊢;clear h hS hfit;go_in;go_wp2_with fail;refine(nu.out).mono ?_;rintro y w1 ⟨rfl,rfl⟩;go_wp2_with fail;refine(HS.out).mono ?_;rintro y w1 ⟨rfl,KM,hT,hTs,hM1,hm⟩
 have HF:=qd (show oW w1 db rb cap ob og fb bY eb vb cK bI bs (takeN T next 8) (eD bs.length depth ((x.add (cU 1) 1).add cV 1,Ts) (bT (T.gs.getD next []))).2 n depth (next+1)from by
  have hap:∀q,q≠P.mb→q≠eb→q≠ob→q≠og→q∉fM bs→q∉P.mb::eb::ob::og::fM bs:=fun q a1 a2 a3 a4 a5=>by simp only[List.mem_cons,not_or];exact⟨a1,a2,a3,a4,a5⟩
  refine⟨HH.out.blk.mod hm (hap _ (by omega) (by omega) (by omega) (by omega) (by assumption)),HH.out.row.mod hm (hap _ (by omega) (by omega) (by omega) (by omega) (by assumption)),fun b hb=>(HH.out.qw b hb).mod hm (hap _ (fun e=>m8 (e▸hb)) (fun e=>e4 (e▸hb)) (fun e=>o2 (e▸hb)) (fun e=>g1 (e▸hb)) (fun hq=>hn3 b hb b hq rfl)),
   HH.out.fresh.mod hm (hap _ (by omega) (by omega) (by omega) (by omega) (by assumption)),KM,hT,hTs,HH.out.pow,HH.out.many,HH.out.eq,HH.out.deep,HH.out.nd⟩)
 have HM:=qd (hm.more (T:=P.mb::aW db rb fb eb vb ob og bI bs) (by intro q hq;unfold aW;simp only[List.mem_cons,List.mem_append]at hq⊢;rcases hq with h|h|h|h|h<;>simp[h]));have UR:=qd hM1;clear KM hT hTs hM1 hm;go_wp2;go_ret;exact⟨rfl,HF.out,UR.out,HM.out⟩
end Go.Proofs.YtnfjjbpmhcbelaaGreatDoor
