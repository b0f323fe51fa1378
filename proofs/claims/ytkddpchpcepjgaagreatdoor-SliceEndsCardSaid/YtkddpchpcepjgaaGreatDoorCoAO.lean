/- A dual's Least by its contract. -/
import Derived.Test.YtkddpchpcepjgaaGreatDoorCoAK
namespace Go.Proofs.YtkddpchpcepjgaaGreatDoor
set_option maxRecDepth 100000
set_option maxHeartbeats 8000000
open Go.RowKit cu
theorem xp:type_of% @List.mem_range'_1:=@List.mem_range'_1
theorem kf:type_of% @List.pairwise_iff_getElem:=@List.pairwise_iff_getElem
section
variable {Ts : List aC} {j : Nat} {T : aC}
def tK (o o2:Option ay):Option ay:=match o2 with
 |none=>o
 |some e=>match o with
  |none=>some e
  |some b=>if bO e b then some e else some b
def gZ (f:ay)(Ts:List aC):Option ay:=Ts.foldl (λo T=>tK o (dX f none (aM T.gs))) none
theorem Pg (f:ay)(h:Ts[j]?=some T):gZ f (Ts.take (j+1))=tK (gZ f (Ts.take j)) (dX f none (aM T.gs)):=by
 unfold gZ;rw[r9 h,KB];rfl
def tL (Ts:List aC):Nat:=(Ts.map λT=>T.gs.length).sum
theorem Xp (h:Ts[j]?=some T):tL (Ts.take (j+1))=tL (Ts.take j)+T.gs.length:=by
 unfold tL;rw[r9 h,jn,List.sum_append];simp
theorem Js {W0:World}{E:Nat->Addr}(db ob cap:Nat)(A:Option Addr)(fr:List Nat)(hl2:fr.length<=2)(dep bls mv tk:Value)(bs:List (Nat×Nat))(Ts:List aC)(P:MP)(x:bS)(c:bE)(hash key:Nat)(w:World)(hblk:aj w db 284 #[.pointer (some ⟨ob,0,none⟩),dep,bls,.slice A fr.length cap,mv,tk])(hrd:Reads w w.heap.size 1 A fr.length (ptrs fr))(hbs:bs.map Prod.fst=fr++[ob])(hts:iR w bs Ts)(tN:∀T∈Ts,T.gs.length<=64)(hM:aN w P x)(hE:Env W0 E w)(hb0:W0.heap.size<=P.mb)(hbd:∀b∈bs,P.mb≠b.1/\P.mb≠b.2):
  Calls Tryz.prog 223 #[bQ db,aI (some ⟨P.mb,P.mo,none⟩) c,.int .u64 (hash:Int),.int .u64 (key:Int)] w λe w'=>e= .returned (fP (gZ ⟨key,0,hash⟩ Ts))/\aN w' P (x.add c (tL Ts))/\Mod [P.mb] w w':=by
 obtain⟨zM,hfr⟩:∃zM:ay,zM=⟨key,0,hash⟩:=⟨_,rfl⟩;rw[<-hfr];have HFR:=qd hfr;clear hfr
 have hbl:bs.length=fr.length+1:=by have:=congrArg List.length hbs;simpa using this
 have ah1:=hts.len;obtain⟨W,hW,hB,hL,hR,hO⟩:=qX3 w 153 #[.pointer (some ⟨P.mb,P.mo,none⟩),.int .i64 c.p,.int .i64 c.v,.int .i64 c.u] 67 #[.int .u64 0,.int .u64 0,.int .u64 0] 67 #[.int .u64 0,.int .u64 0,.int .u64 0];have hml:=hM.lt;have hB0:=hE.size;have HW:=qd hW
 have hbw:∀b∈bs,b.1<w.heap.size/\b.2<w.heap.size:=λb hb=>by
  obtain⟨j,hj⟩:=qs hb;obtain⟨hlt,_⟩:=zz.1 hj
  have hlt2:j<Ts.length:=by rw[<-hts.len];exact hlt
  have:=hts.at_ j b Ts[j] hj (zg hlt2);exact⟨this.aS,this.aT⟩
 have HTb:=qd (RG db ob cap A fr hl2 dep bls mv tk W (hblk.below hB hblk.lt) ((hrd.below hB).more hB.size));unfold bQ at HTb|-;unfold aI fP aP;have dR:=qd (hts.mod (Mod.of_below hB []) (by simp));have av:=qd (hE.next hB);have HM:=qd (show aN W P (x.add c (tL (Ts.take 0)))from hM.below hB);have HL:=qd (hL);have HR:=qd (hR);have HO:=qd (show aj W _ _ (yL (gZ zM (Ts.take 0)))from hO);have ah:=qd (Mod.of_below hB [P.mb]);have z1:=ah.o.size;obtain⟨lb,hlb⟩:∃lb,lb=w.heap.size:=⟨_,rfl⟩;obtain⟨rb,hrb⟩:∃rb,rb=w.heap.size+1:=⟨_,rfl⟩;obtain⟨LZ,nA⟩:∃LZ,LZ=w.heap.size+1+1:=⟨_,rfl⟩;clear hW hB hblk hrd hM hL hE hR hO hts;go_in;go_upto_region 3 with fail;rw[<-HW.o,<-nA,<-hrb,<-hlb];rw[<-hlb]at HL;rw[<-hrb]at HR;rw[<-nA]at HO
 have n1:lb<rb:=by omega
 have n2:rb<LZ:=by omega
 have n4:P.mb<lb:=by omega
 have n7:W0.heap.size<=lb:=by omega
 have n8:w.heap.size<=lb:=by omega
 clear hlb hrb nA HW;have q2:=qJ HM.o.lt (qJ HL.o.lt (qJ HR.o.lt HO.o.lt));go_wp2_with fail;refine(HTb.o).mono ?_;rintro x w1 ⟨tb,tc,htb,rfl,hrow,hb⟩;replace dR:=qd (dR.o.mod (Mod.of_below hb []) (by simp));replace av:=qB hb av;replace HM:=qB hb HM;replace HL:=qB hb HL;replace HR:=qB hb HR;replace HO:=qB hb HO;have z6:=(hb).size;replace ah:=qT ah hb;clear hb;have HW:=qd (hrow);clear hrow HTb;have q7:=qJ HM.o.lt (qJ HL.o.lt (qJ HR.o.lt (qJ HO.o.lt HW.o.lt)));go_wp2;go_loopw [11,13,14,15,19] (λv11 _ _ _ i wr=>∃j:Nat,j<=fr.length+1/\i= .int .i64 j/\v11= .bool (gZ zM (Ts.take j)).isSome/\aN wr P (x.add c (tL (Ts.take j)))/\aj wr LZ 67 (yL (gZ zM (Ts.take j)))/\iR wr bs Ts/\Env W0 E wr/\aj wr lb 153 #[.pointer (some ⟨P.mb,P.mo,none⟩),.int .i64 c.p,.int .i64 c.v,.int .i64 c.u]/\aj wr rb 67 #[.int .u64 0,.int .u64 0,.int .u64 0]/\fO wr tb (fr++[ob])/\Mod [P.mb] w wr) (λ_ _ _ _ i _=>(fr.length+1)-(intOf i).toNat)
 case atStart=>exact⟨0,by omega,rfl,rfl,HM.o,HO.o,dR.o,av.o,HL.o,HR.o,HW.o,ah.o⟩
 case round=>
  clear HM HO dR av HL HR HW ah;obtain⟨j,hj,rfl,rfl,hM,hO,hTs,hE,hL,hR,hW,hm⟩:=hrel;by_cases hlt:j<fr.length+1
  ·have hlt':(j:Int)<((fr.length:Int)+1):=by omega
   have hj0:(0:Int)<=(j:Int):=by omega
   obtain⟨b,hb⟩:∃b,bs[j]?=some b:=⟨_,zg (by omega)⟩;obtain⟨T,hT⟩:∃T,Ts[j]?=some T:=⟨_,zg (by omega)⟩;have pX:=zE hb;have hbb:=hbd b pX;have hrw:=hW.at_ j b.1 (by rw[<-hbs,Q3,hb];rfl);have h64:=tN T (zE hT);have eO:=qd (Pg zM hT);have HSm:=qd (Xp hT);have Gg:=qd hb;have HTi:=qd hT;clear hb hT;have dR:=qd (hTs);have HM:=qd (hM);have av:=qd (hE);have HO:=qd (hO);have HL:=qd (hL);have HR:=qd (hR);have HW:=qd (hW);have ah:=qd (hm);clear hM hO hTs hE hL hR hW hm;obtain⟨o,ho⟩:∃o,o=gZ zM (Ts.take j):=⟨_,rfl⟩;rw[<-ho]at HO eO|-;clear ho;have qg:=qd (Gd b.1 b.2 T P (x.add c (tL (Ts.take j))) c hash key h64 wr (dR.o.at_ j b T Gg.o HTi.o) HM.o av.o hbb.1 hbb.2 hb0);rw[<-HFR.o]at qg;obtain⟨p,hp⟩:∃p,p=dX zM none (aM T.gs):=⟨_,rfl⟩;rw[<-hp]at qg eO;clear hp;unfold bT aI fP aP at qg;go_upto_region 6 with fail;have lc:=HL.o.c4;go_wp2_with fail;refine(qg.o).mono ?_;rintro x w2 ⟨rfl,hM1,hm⟩;clear hrw lc;replace dR:=qd (dR.o.mod hm (λb hb=>by have hh:=hbd b hb;have hh2:=hbw b hb;simp<;>omega));replace av:=qM hm av;replace HO:=qM hm HO;replace HL:=qM hm HL;replace HR:=qM hm HR;replace HW:=qM hm HW;have z1:=(hm).size;replace ah:=qU ah hm;clear hm HM qg;have HM:=qd (show aN w2 P (x.add c (tL (Ts.take (j+1))))from by rw[HSm.o,<-bS.add_add];exact hM1);clear hM1;go_upto_region 7 with fail
   cases p with
   |none=>
    have aaD:=qJ HO.o.lt (qJ HL.o.lt (qJ HR.o.lt (qJ HW.o.lt (qJ HM.o.lt ah.o.size))));refine dL 67 #[.int .u64 0,.int .u64 0,.int .u64 0] ?_;rintro w3 ⟨hnew,hb⟩;obtain⟨xb,hxb⟩:∃xb,xb=w2.heap.size:=⟨_,rfl⟩;rw[<-hxb]at hnew|-
    replace hxb:w2.heap.size<=xb:=by omega
    replace dR:=qd (dR.o.mod (Mod.of_below hb []) (by simp));replace av:=qB hb av;replace HO:=qB hb HO;replace HL:=qB hb HL;replace HR:=qB hb HR;replace HW:=qB hb HW;replace HM:=qB hb HM;have aaE:=(hb).size;replace ah:=qT ah hb;have HX:=qd (hnew);clear hnew hb;replace eO:=qd (show gZ zM (Ts.take (j+1))=o from eO.o);go_wp2;go_roundw
    case rel=>exact⟨j+1,by omega,by go_num,by rw[eO.o]<;>rfl,HM.o,by rw[eO.o];exact HO.o,dR.o,av.o,HL.o,HR.o,HW.o,ah.o⟩
    case measure=>simp[intOf];omega
   |some e=>
    cases o with
    |none=>
     have aaD:=qJ HO.o.lt (qJ HL.o.lt (qJ HR.o.lt (qJ HW.o.lt (qJ HM.o.lt ah.o.size))));refine dL 67 #[.int .u64 ((e).key:Int),.int .u64 ((e).val:Int),.int .u64 ((e).hash:Int)] ?_;rintro w3 ⟨hnew,hb⟩;obtain⟨xb,hxb⟩:∃xb,xb=w2.heap.size:=⟨_,rfl⟩;rw[<-hxb]at hnew|-
     replace hxb:w2.heap.size<=xb:=by omega
     replace dR:=qd (dR.o.mod (Mod.of_below hb []) (by simp));replace av:=qB hb av;replace HO:=qB hb HO;replace HL:=qB hb HL;replace HR:=qB hb HR;replace HW:=qB hb HW;replace HM:=qB hb HM;have aaE:=(hb).size;replace ah:=qT ah hb;have HX:=qd (hnew);clear hnew hb;replace HO:=qd (show aj w3 LZ 67 #[.int .u64 0,.int .u64 0,.int .u64 0]from HO.o);replace eO:=qd (show gZ zM (Ts.take (j+1))=some e from eO.o);have xc:=HX.o.c3;have oc:=HO.o.c3;have of:=HO.o.f3;go_upto_region 9 with fail;have ah2:=qJ HO.o.lt (qJ HL.o.lt (qJ HR.o.lt (qJ HW.o.lt (qJ HM.o.lt HX.o.lt))));refine Li HO.o ?_;rintro w6 ⟨hnew,hm⟩;simp only[pt]at hnew;replace dR:=qd (dR.o.mod hm (λb hb=>by have hh:=hbd b hb;have hh2:=hbw b hb;simp<;>omega));replace av:=qM hm av;replace HL:=qM hm HL;replace HR:=qM hm HR;replace HW:=qM hm HW;replace HM:=qM hm HM;replace HX:=qM hm HX;have ah3:=(hm).size;replace ah:=qU ah hm;replace HO:=qd hnew;clear hnew hm;go_wp2;go_roundw
     case rel=>exact⟨j+1,by omega,by go_num,by rw[eO.o]<;>rfl,HM.o,by rw[eO.o];exact HO.o,dR.o,av.o,HL.o,HR.o,HW.o,ah.o⟩
     case measure=>simp[intOf];omega
    |some b2=>
     cases hlb:bO e b2 with
     |true=>
      have aaD:=qJ HO.o.lt (qJ HL.o.lt (qJ HR.o.lt (qJ HW.o.lt (qJ HM.o.lt ah.o.size))));refine dL 67 #[.int .u64 ((e).key:Int),.int .u64 ((e).val:Int),.int .u64 ((e).hash:Int)] ?_;rintro w3 ⟨hnew,hb⟩;obtain⟨xb,hxb⟩:∃xb,xb=w2.heap.size:=⟨_,rfl⟩;rw[<-hxb]at hnew|-
      replace hxb:w2.heap.size<=xb:=by omega
      replace dR:=qd (dR.o.mod (Mod.of_below hb []) (by simp));replace av:=qB hb av;replace HO:=qB hb HO;replace HL:=qB hb HL;replace HR:=qB hb HR;replace HW:=qB hb HW;replace HM:=qB hb HM;have aaE:=(hb).size;replace ah:=qT ah hb;have HX:=qd (hnew);clear hnew hb;replace HO:=qd (show aj w3 LZ 67 #[.int .u64 ((b2).key:Int),.int .u64 ((b2).val:Int),.int .u64 ((b2).hash:Int)]from HO.o);have Xq:=qd (show gZ zM (Ts.take (j+1))=some e from by rw[eO.o];show(if bO e b2 then some e else some b2)=_;rw[hlb];rfl);clear eO;have eO:=Xq;clear Xq;have yN:=qd (λV:World=>kW e b2 V);rw[hlb]at yN;unfold aP at yN;clear hlb;have xc:=HX.o.c3;have oc:=HO.o.c3;go_wp2_with fail;refine((yN.o w3)).mono ?_;rintro x w5 ⟨rfl,hb⟩;clear xc oc;replace dR:=qd (dR.o.mod (Mod.of_below hb []) (by simp));replace av:=qB hb av;replace HO:=qB hb HO;replace HL:=qB hb HL;replace HR:=qB hb HR;replace HW:=qB hb HW;replace HM:=qB hb HM;replace HX:=qB hb HX;have agd:=(hb).size;replace ah:=qT ah hb;clear hb;have xc:=HX.o.c3;have oc:=HO.o.c3;have of:=HO.o.f3;go_upto_region 9 with fail;have ah4:=qJ HO.o.lt (qJ HL.o.lt (qJ HR.o.lt (qJ HW.o.lt (qJ HM.o.lt HX.o.lt))));refine Li HO.o ?_;rintro w6 ⟨hnew,hm⟩;simp only[pt]at hnew;replace dR:=qd (dR.o.mod hm (λb hb=>by have hh:=hbd b hb;have hh2:=hbw b hb;simp<;>omega));replace av:=qM hm av;replace HL:=qM hm HL;replace HR:=qM hm HR;replace HW:=qM hm HW;replace HM:=qM hm HM;replace HX:=qM hm HX;have ah5:=(hm).size
      replace ah:=qU ah hm;replace HO:=qd hnew;clear hnew hm;go_wp2;go_roundw
      case rel=>exact⟨j+1,by omega,by go_num,by rw[eO.o]<;>rfl,HM.o,by rw[eO.o];exact HO.o,dR.o,av.o,HL.o,HR.o,HW.o,ah.o⟩
      case measure=>simp[intOf];omega
     |false=>
      have aaD:=qJ HO.o.lt (qJ HL.o.lt (qJ HR.o.lt (qJ HW.o.lt (qJ HM.o.lt ah.o.size))));refine dL 67 #[.int .u64 ((e).key:Int),.int .u64 ((e).val:Int),.int .u64 ((e).hash:Int)] ?_;rintro w3 ⟨hnew,hb⟩;obtain⟨xb,hxb⟩:∃xb,xb=w2.heap.size:=⟨_,rfl⟩;rw[<-hxb]at hnew|-
      replace hxb:w2.heap.size<=xb:=by omega
      replace dR:=qd (dR.o.mod (Mod.of_below hb []) (by simp));replace av:=qB hb av;replace HO:=qB hb HO;replace HL:=qB hb HL;replace HR:=qB hb HR;replace HW:=qB hb HW;replace HM:=qB hb HM;have aaE:=(hb).size;replace ah:=qT ah hb;have HX:=qd (hnew);clear hnew hb;replace HO:=qd (show aj w3 LZ 67 #[.int .u64 ((b2).key:Int),.int .u64 ((b2).val:Int),.int .u64 ((b2).hash:Int)]from HO.o);have Xq:=qd (show gZ zM (Ts.take (j+1))=some b2 from by rw[eO.o];show(if bO e b2 then some e else some b2)=_;rw[hlb];rfl);clear eO;have eO:=Xq;clear Xq;have yN:=qd (λV:World=>kW e b2 V);rw[hlb]at yN;unfold aP at yN;clear hlb;have xc:=HX.o.c3;have oc:=HO.o.c3;go_wp2_with fail;refine((yN.o w3)).mono ?_;rintro x w5 ⟨rfl,hb⟩;clear xc oc;replace dR:=qd (dR.o.mod (Mod.of_below hb []) (by simp));replace av:=qB hb av;replace HO:=qB hb HO;replace HL:=qB hb HL;replace HR:=qB hb HR;replace HW:=qB hb HW;replace HM:=qB hb HM;replace HX:=qB hb HX;have agd:=(hb).size;replace ah:=qT ah hb;clear hb;go_wp2;go_roundw
      case rel=>exact⟨j+1,by omega,by go_num,by rw[eO.o]<;>rfl,HM.o,by rw[eO.o];exact HO.o,dR.o,av.o,HL.o,HR.o,HW.o,ah.o⟩
      case measure=>simp[intOf];omega
  ·obtain rfl:j=fr.length+1:=by omega
   have hlt':¬((fr.length+1:Nat):Int)<((fr.length+1:Nat):Int):=by omega
   have htk:Ts.take (fr.length+1)=Ts:=ym (by omega);rw[htk]at hO hM|-;clear htk;obtain⟨b,hbe⟩:∃b,b=(gZ zM Ts).getD ⟨0,0,0⟩:=⟨_,rfl⟩;have HM:=qd (hM);have HO:=qd (show aj wr LZ _ #[.int .u64 ((b).key:Int),.int .u64 ((b).val:Int),.int .u64 ((b).hash:Int)]from by rw[hbe];exact hO);have HR:=qd (hR);have ah:=qd (hm);have xL:=qd hbe;clear hM hO hTs hE hL hR hW hm hbe;have oc:=HO.o.c3;have rc:=HR.o.c3;have rf:=HR.o.f3;go_wp2;have q1:=qJ HM.o.lt (qJ HO.o.lt HR.o.lt);refine Li HR.o ?_;rintro w9 ⟨hnew,hm⟩;simp only[pt]at hnew;replace HM:=qM hm HM;replace HO:=qM hm HO;have z4:=(hm).size;replace ah:=qU ah hm;replace HR:=qd hnew;clear hnew hm;have rx:=HR.o.c3;refine bodyPost_ret (v:= .tuple #[.agg #[.int .u64 ((b).key:Int),.int .u64 ((b).val:Int),.int .u64 ((b).hash:Int)],.bool (gZ zM Ts).isSome]) (by simp[results,Tryz.results223,go_sem,rx.1,rx.2.1,rx.2.2]) rfl ⟨by rw[xL.o],HM.o,ah.o⟩
end
theorem UZ (rb cap:Nat)(ts:List Nat)(hn:1<=ts.length/\ts.length<=2)(w:World)(h:fO w rb ts):
  Calls Tryz.prog 292 #[.slice (some ⟨rb,0,none⟩) ts.length cap] w λe w'=>∃wO c',w.heap.size<=wO/\e= .returned (.slice (some ⟨wO,0,none⟩) ts.length c')/\fO w' wO ts/\Below w.heap.size w w':=by
 have HR:=qd h.reads;obtain⟨n1,n2⟩:=hn
 have hnn:(Go.binOp .eql 281 (.slice (some ⟨rb,0,none⟩) ts.length cap) (.slice none 0 0)).run Tryz.prog w= .ok (.bool false) w:=by first|rfl|kernel_rfl|simp[Go.binOp,go_sem]
 clear h;go_in;go_wp2_with (at_builtin;refine Je rfl rfl mG (World.ownsRow_lit w #[] 0 (zb _) (by simp) rfl) rfl rfl (HR.o.alloc (zb _) _) (yS ts) (by omega) (by simp) ?_;intro v4 w4 dM hg4);rw[yz]at dM;obtain⟨A4,c4,rfl⟩:=bq dM;go_ret;obtain⟨wO,rfl,G7,hrow,_⟩:=fO.jy (show w4.ownsRow w.heap.size 172 1 (.slice A4 ts.length c4) ts.length (ptrs ts)from by simpa using dM) (by omega);have hB:Below w.heap.size w w4:=((Below.refl _ _).alloc (zb _) _).trans hg4.below
 first|exact⟨wO,G7,⟨_,rfl⟩,hrow,hB⟩|exact⟨wO,_,G7,rfl,hrow,hB⟩
theorem aaF (tb rb cap depth:Nat)(ts:List Nat)(hn:1<=ts.length/\ts.length<=2)(hd:depth<=15)(w:World)(h:fO w rb ts):
  Calls Tryz.prog 289 #[pQ tb,nI depth,.slice (some ⟨rb,0,none⟩) ts.length cap] w λe w'=>∃eb vb c2,w.heap.size<=eb/\w.heap.size<=vb/\eb≠vb/\e= .returned (.tuple #[pQ eb,.nilIface])/\mW w' eb tb vb c2 ts depth 0/\Below w.heap.size w w':=by
 obtain⟨n1,n2⟩:=hn;have HC:=qd (contains_nil rb cap ts n2 w h);have HK:=qd (UZ rb cap ts ⟨n1,n2⟩ w h)
 have hnl:ts.length=1\/ts.length=2:=by omega
 have hd0:¬(depth:Int)<0:=by omega
 have hd1:¬(depth:Int)>15:=by omega
 clear h;obtain⟨n,hnn⟩:∃n,n=ts.length:=⟨_,rfl⟩;have Ph:=qd hnn;rw[<-hnn]at HC HK hnl n1 n2;simp only[<-hnn];clear hnn;rcases hnl with rfl|rfl
 all_goals
  go_in;go_wp2_with fail;refine(HC.o).mono ?_;rintro y w1 ⟨rfl,rfl⟩;go_wp2_with fail;refine(HK.o).mono ?_;rintro y w2 ⟨vb,c2,hvb,rfl,hrow,hb⟩;have hvl:=hrow.lt;have Xr:=qd (aj.new w2 316 #[pQ tb,.slice (some ⟨vb,0,none⟩) ts.length c2,nI depth,.int .i64 0]);have HE:=qd (And.intro (hrow.mod (Mod.of_below ((Below.refl w2.heap.size w2).alloc (zb _) (.cells #[pQ tb,.slice (some ⟨vb,0,none⟩) ts.length c2,nI depth,.int .i64 0] 316)) []) (by simp)) (hb.alloc hb.size (.cells #[pQ tb,.slice (some ⟨vb,0,none⟩) ts.length c2,nI depth,.int .i64 0] 316)));rw[<-Ph.o]at Xr HE;have hbs:=hb.size;clear hrow hb;go_wp2;refine bodyPost_ret (v:= .tuple #[pQ w2.heap.size,.nilIface]) (by simp[results,Tryz.results289,go_sem]) rfl ?_;have L6:mW (w2.alloc (.cells #[pQ tb,.slice (some ⟨vb,0,none⟩) _ c2,nI depth,.int .i64 0] 316)) w2.heap.size tb vb c2 ts depth 0:=⟨by rw[<-Ph.o];exact Xr.o,HE.o.1⟩
  first|exact⟨w2.heap.size,vb,c2,hbs,hvb,by omega,rfl,L6,HE.o.2⟩|exact⟨w2.heap.size,hbs,vb,hvb,by omega,rfl,c2,L6,HE.o.2⟩
section
variable {w w' : World} {α : Type} {j n : Nat} {bl : List (Nat × Nat × Nat)}
theorem mX {B:Nat}(h:Below B w w'):Mod (List.range' B (w.heap.size-B)) w w':=
 ⟨h.os,h.tape,h.output,h.size,λk hk hn=>h.block k (by simp[xp]at hn;omega)⟩
theorem Cm {f:α->List Nat}{l:List α}(h:(l.flatMap f).Nodup){i:Nat}{a b:α}(hi:l[i]?=some a)(hj:l[j]?=some b)(hne:i≠j):∀x∈f a,x∉f b:=by
 obtain⟨hi',rfl⟩:=zz.1 hi;obtain⟨hj',rfl⟩:=zz.1 hj;have hp:=kf.1 (List.pairwise_flatMap.1 h).2;intro x hx hy;rcases Kd i j with hlt|hge
 ·exact hp i j hi' hj' hlt x hx x hy rfl
 ·exact hp j i hj' hi' (by omega) x hy x hx rfl
theorem aaG {f:α->List Nat}{l:List α}(h:(l.flatMap f).Nodup){a:α}(ha:a∈l):(f a).Nodup:=(List.pairwise_flatMap.1 h).1 a ha
structure yT (w:World)(bl:List (Nat×Nat×Nat))(n j:Nat):Prop where
 Jt:∀(i:Nat) (b:Nat×Nat×Nat),bl[i]?=some b->j<=i->gB w b.1 b.2.1 b.2.2 n n
 done:∀(i:Nat) (b:Nat×Nat×Nat),bl[i]?=some b->i<j->aj w b.1 313 #[.pointer none,nI n,nI n]
 tabs:∀(i:Nat) (b:Nat×Nat×Nat),bl[i]?=some b->TabAt w b.2.1 b.2.2 (eB n n)
theorem yT.mod {S:List Nat}(h:yT w bl n j)(hm:Mod S w w')(hs:∀b∈bl,b.1∉S/\b.2.1∉S/\b.2.2∉S):yT w' bl n j:=
 ⟨λi b hb hj=>by obtain⟨h1,h2,h3⟩:=hs b (zE hb);exact(h.Jt i b hb hj).mod hm h1 h2 h3,
  λi b hb hj=>(h.done i b hb hj).mod hm (hs b (zE hb)).1,
  λi b hb=>(h.tabs i b hb).mod hm (hs b (zE hb)).2.1 (hs b (zE hb)).2.2⟩
def bF (b:Nat×Nat×Nat):List Nat:=[b.1,b.2.1,b.2.2]
def iT (bl:List (Nat×Nat×Nat)):List (Nat×Nat):=bl.map λb=>(b.2.1,b.2.2)
theorem Am:∀bl:List (Nat×Nat×Nat),(bl.flatMap bF).Perm (bl.map (λb=>b.1)++gT (iT bl))
 | []=> .refl _
 |b::t=>by
  have h:=Am t
  have h1:((b::t).flatMap bF)=b.1::([b.2.1,b.2.2]++t.flatMap bF):=by simp[bF]
  have h2:((b::t).map (λb=>b.1)++gT (iT (b::t)))=b.1::(t.map (λb=>b.1)++([b.2.1,b.2.2]++gT (iT t))):=by simp[gT,iT]
  rw[h1,h2];refine List.Perm.cons _ ((h.append_left _).trans ?_);rw[<-qe,<-qe];exact YY.append_right _
theorem zN {q:Nat}(h:q∈bl.map (λb=>b.1)++gT (iT bl)):q∈bl.flatMap bF:=(Am bl).mem_iff.2 h
theorem Ju (bl:List (Nat×Nat×Nat)):(iT bl).map Prod.fst=bl.map λb=>b.2.1:=by simp[iT]
theorem yT.take (h:yT w bl n j)(hnd:(bl.flatMap bF).Nodup){b:Nat×Nat×Nat}(hb:bl[j]?=some b)(hk:aj w' b.1 313 #[.pointer none,nI n,nI n])(hm:Mod [b.1] w w'):yT w' bl n (j+1):=by
 have ap:∀(i:Nat) (c:Nat×Nat×Nat),bl[i]?=some c->i≠j->c.1≠b.1/\c.2.1≠b.1/\c.2.2≠b.1:=λi c hc hne=>by
  have hf:=Cm hnd hc hb hne;have h1:=hf c.1 (by simp[bF]);have h2:=hf c.2.1 (by simp[bF]);have h3:=hf c.2.2 (by simp[bF]);simp[bF]at h1 h2 h3;exact⟨h1.1,h2.1,h3.1⟩
 have hb3:=aaG hnd (zE hb);simp[bF]at hb3;refine⟨λi c hc hj=> ?_,λi c hc hj=> ?_,λi c hc=> ?_⟩
 ·obtain⟨h1,h2,h3⟩:=ap i c hc (by omega);exact(h.Jt i c hc (by omega)).mod hm (by simpa using h1) (by simpa using h2) (by simpa using h3)
 ·by_cases hij:i=j
  ·subst hij;rw[hb]at hc;cases hc;exact hk
  ·exact(h.done i c hc (by omega)).mod hm (by simpa using(ap i c hc hij).1)
 ·by_cases hij:i=j
  ·subst hij;rw[hb]at hc;cases hc;exact(h.tabs _ _ hb).mod hm (by simp;omega) (by simp;omega)
  ·obtain⟨h1,h2,h3⟩:=ap i c hc hij;exact(h.tabs i c hc).mod hm (by simpa using h2) (by simpa using h3)
theorem yT.ad7 (h:yT w bl n j)(hnd:(bl.flatMap bF).Nodup):iR w (iT bl) (List.replicate bl.length (eB n n)):=by
 refine⟨by simp[iT],λi b T hb hT=> ?_,λi k b c hb hc hne=> ?_⟩
 ·unfold iT at hb;rw[Q3]at hb;obtain⟨x,hx,rfl⟩:=yl.1 hb;have:=zE hT;rw[(vd.1 this).2];exact h.tabs i x hx
 ·unfold iT at hb hc;rw[Q3]at hb hc;obtain⟨x,hx,rfl⟩:=yl.1 hb;obtain⟨y,hy,rfl⟩:=yl.1 hc;have hf:=Cm hnd hx hy hne;have h1:=hf x.2.1 (by simp[bF]);have h2:=hf x.2.2 (by simp[bF]);simp[bF]at h1 h2;exact⟨h1.2.1,h1.2.2,h2.2.1,h2.2.2⟩
theorem Xt {f:α->Nat}{l:List α}{b:α}(h:l[j]?=some b):ptrs ((l.take j).map f)++[.pointer (some ⟨f b,0,none⟩)]=ptrs ((l.take (j+1)).map f):=by
 rw[r9 h,jn];simp[ptrs]
theorem U0 (db rb cap ob og:Nat)(bl:List (Nat×Nat×Nat))(T:aC)(n depth:Nat)(afE:1<=bl.length/\bl.length<=2)(acf:depth<=15)(ad8:Pw n)(hnd:(bL db rb ob og bl).Nodup)(w:World)(hblk:aj w db 284 #[pQ ob,nI depth,.slice (some ⟨rb,0,none⟩) bl.length cap,.slice none 0 0,.pointer none,.bool false])(hrow:fO w rb (bl.map λb=>b.1))(htab:TabAt w ob og T)(hbl:yT w bl n 0):
  Calls Tryz.prog 280 #[bQ db] w λe w'=>e= .returned undef/\∃fb cB eb vb dw,pY w' db rb cap ob og fb cB eb vb dw (bl.map λb=>b.1) (iT bl) T (List.replicate bl.length (eB n n)) n depth 0/\w.heap.size<=fb/\w.heap.size<=eb/\w.heap.size<=vb/\Mod (bL db rb ob og bl) w w':=by
 obtain⟨n1,n2⟩:=afE;unfold bL at hnd;simp only[qa,zt,not_or]at hnd;obtain⟨⟨hd1,hd2,hd3,hd4⟩,⟨hr1,hr2,hr3⟩,⟨ho1,ho2⟩,hg1,hnd'⟩:=hnd;have Oe:∀b∈bl,∀q,q=b.1\/q=b.2.1\/q=b.2.2->q∈bl.flatMap λb=> [b.1,b.2.1,b.2.2]:=λb hb q hq=>jz.2 ⟨b,hb,by simpa using hq⟩
 have hne:∀b∈bl,db≠b.1/\db≠b.2.1/\db≠b.2.2/\rb≠b.1/\rb≠b.2.1/\rb≠b.2.2/\ob≠b.1/\ob≠b.2.1/\ob≠b.2.2/\og≠b.1/\og≠b.2.1/\og≠b.2.2/\b.1<w.heap.size/\b.2.1<w.heap.size/\b.2.2<w.heap.size:=λb hb=>by
  have m1:=Oe b hb b.1 (.inl rfl);have m2:=Oe b hb b.2.1 (.inr (.inl rfl));have m3:=Oe b hb b.2.2 (.inr (.inr rfl));obtain⟨i,hi⟩:=qs hb;have hl:=hbl.Jt i b hi (Q4 _);exact⟨λe=>hd4 (e▸m1),λe=>hd4 (e▸m2),λe=>hd4 (e▸m3),λe=>hr3 (e▸m1),λe=>hr3 (e▸m2),λe=>hr3 (e▸m3),λe=>ho2 (e▸m1),λe=>ho2 (e▸m2),λe=>ho2 (e▸m3),λe=>hg1 (e▸m1),λe=>hg1 (e▸m2),λe=>hg1 (e▸m3),hl.lt,hl.aS,hl.aT⟩
 have Pj:=qd (show(bl.flatMap bF).Nodup from hnd');have Ed:=qd acf;have L8:=qd ad8;clear hnd' Oe hd4 hr3 ho2 hg1 acf ad8;have HD:=qd (hblk);have HR:=qd (hrow);have HT:=qd (htab);have HB:=qd (hbl);have ah:=qd (Mod.refl (bL db rb ob og bl) w);have q1:=qJ HD.o.lt (qJ HR.o.lt (qJ HT.o.aS HT.o.aT));clear hblk hrow htab hbl;unfold bQ;go_in;have dc:=HD.o.c6;go_wp2;clear dc;go_loopw [3,9] (λ_ i wr=>∃j:Nat,j<=bl.length/\i= .int .i64 j/\∃v,aj wr db 284 #[pQ ob,nI depth,.slice (some ⟨rb,0,none⟩) bl.length cap,v,.pointer none,.bool false]/\wr.ownsRow w.heap.size 172 1 v j (ptrs ((bl.take j).map λb=>b.2.1))/\fO wr rb (bl.map λb=>b.1)/\TabAt wr ob og T/\yT wr bl n j/\Mod (bL db rb ob og bl) w wr) (λ_ i _=>bl.length-(intOf i).toNat)
 case atStart=>exact⟨0,by omega,rfl,_,HD.o,by simpa[ptrs]using World.ownsRow_nil w w.heap.size _ 1,HR.o,HT.o,HB.o,ah.o⟩
 case round=>
  clear HD HR HT HB ah;obtain⟨j,hj,rfl,v,hD,hO,hR,hT,hB,hm⟩:=hrel;obtain⟨A,vc,rfl⟩:=bq hO;by_cases hlt:j<bl.length
  ·have hlt':(j:Int)<(bl.length:Int):=by omega
   have hj0:(0:Int)<=(j:Int):=by omega
   obtain⟨b,hb⟩:∃b,bl[j]?=some b:=⟨_,zg hlt⟩;have pX:=zE hb;have hbb:=hne b pX;have hrw:=hR.at_ j b.1 (by rw[Q3,hb];rfl);have HPs:=qd (Xt (f:=λb:Nat×Nat×Nat=>b.2.1) hb);have Gg:=qd hb;clear hb;have HD:=qd (hD);have HR:=qd (hR);have HT:=qd (hT);have HB:=qd (hB);have HO:=qd (hO);have ah:=qd (hm);clear hD hO hR hT hB hm;have z1:=qJ ah.o.size (qJ HD.o.lt (qJ HR.o.lt (qJ HT.o.aS HT.o.aT)));go_upto_region 3 with fail;have dc:=HD.o.c6;refine rT (λ(w':World)=>w'.cell? ⟨db,3,none⟩=some (.slice A j vc)) [14] ?_;have hHeld:=dc.2.2.2.1;refine vW 0 rfl ?_;refine vW 1 rfl ?_;refine vW 2 rfl ?_;refine vW 3 rfl ?_;refine vT 4 rfl ?_;refine vW 5 rfl ?_;refine nT 6 rfl λK hK=> ?_;go_simp;have wF:=qd (UQ b.1 b.2.1 b.2.2 n wr.drew (((HB.o.Jt j b Gg.o (zb _)).mod (Mod.drewN [] wr 1) (by simp) (by simp) (by simp))));unfold mV bT at wF;refine(wF.o).mono ?_;rintro y w1 ⟨rfl,hk1,_,hm⟩;replace hm:Mod [b.1] wr w1:=(Mod.drewN [b.1] wr 1).then hm;have hB1:=HB.o.take Pj.o Gg.o hk1 hm;clear wF HB hk1;have hm0:Mod (bL db rb ob og bl) wr w1:=hm.more (by intro q hq;simp at hq;subst hq;exact(wH pX).1);have Xi:=ah;clear ah;have ah:=qd (Mod.refl [b.1] wr);clear hrw dc;replace HD:=qM hm HD;replace HR:=qM hm HR;replace HT:=qM hm HT;replace HO:=qM hm HO;have z6:=(hm).size;replace ah:=qd (ah.o.trans hm (λ_ hh _=>hh) (by intro k hk hl;simp at hk|-<;>omega));clear ah;have ah:=qd (Xi.o.then hm0);clear Xi hm0 hm
   have HB:=qd hB1;clear hB1;have dc:=HD.o.c6;go_wp2_with fail;have hHeld:=dc.2.2.2.1;refine kO hK ?_;clear hK K;refine vW 7 rfl ?_;refine vW 8 rfl ?_;refine nT 9 rfl λK hK=> ?_;go_simp;refine(aar (some ⟨b.2.1,0,none⟩) w1).mono ?_;rintro y w2 ⟨rfl,rfl⟩;go_wp2_with fail;have hHeld:=dc.2.2.2.1;refine kO hK ?_;clear hK K;refine nT 10 rfl λK hK=> ?_;go_simp;have q7:=qJ HD.o.lt (qJ HR.o.lt (qJ HT.o.aS (qJ HT.o.aT ah.o.size)));refine dL 172 #[pQ b.2.1] ?_;rintro w3 ⟨hnew,hb⟩;obtain⟨xb,hxb⟩:∃xb,xb=w1.heap.size:=⟨_,rfl⟩;rw[<-hxb]at hnew|-
   replace hxb:w1.heap.size<=xb:=by omega
   clear dc;replace HD:=qB hb HD;replace HR:=qB hb HR;replace HT:=qB hb HT;replace HO:=qB hb HO;replace HB:=qd (HB.o.mod (Mod.of_below hb []) (by simp));have z12:=(hb).size;replace ah:=qT ah hb;have HX:=qd (hnew);clear hnew hb;have dc:=HD.o.c6;have xc0:=HX.o.cell 0;simp only[zr,zc]at xc0;have hHeld:=dc.2.2.2.1;refine kO hK ?_;clear hK K;refine nT 11 rfl λK hK=> ?_;refine oL (by rfl) (by rfl) mG HO.o (by rfl) (by rfl) (rZ (size:=1) (m:=1) HX.o (by rfl)) (by rfl) (by omega) (by have:=ah.o.size;omega) ?_;intro v4 w4 dM iP;have hown5:w4.ownsRow w.heap.size 172 1 v4 (j+1) (ptrs ((bl.take (j+1)).map λb=>b.2.1)):=HPs.o▸dM;clear dM;obtain⟨A4,vc4,rfl⟩:=bq hown5;have hb4:=iP.below;clear HX HO dc xc0;replace HD:=qd (HD.o.mod (mX hb4) (by simp[xp]<;>omega));replace HR:=qd (HR.o.mod (mX hb4) (by simp[xp]<;>omega));replace HT:=qd (HT.o.mod (mX hb4) (by simp[xp]<;>omega) (by simp[xp]<;>omega));replace HB:=qd (HB.o.mod (mX hb4) (λb hb=>by have hh:=hne b hb;simp[xp]<;>omega));have z13:=(hb4).size;replace ah:=qd (ah.o.trans (mX hb4) (λ_ hh _=>hh) (by intro k hk hl;simp[xp]at hk;omega));have HO:=qd hown5;clear hown5 hb4;have dc:=HD.o.c6;have df:=HD.o.f6;have hHeld:=dc.2.2.2.1;refine kO hK ?_;clear hK K;refine vW 12 rfl ?_;refine vW 13 rfl ?_;refine nT 14 rfl λK hK=> ?_;go_simp;refine kO hK ?_;clear hK K
   refine aV (by kernel_rfl) ?_ _;have q14:=qJ HD.o.lt (qJ HR.o.lt (qJ HT.o.aS HT.o.aT));refine I5 HD.o ?_;rintro w5 ⟨hnew,hm⟩;simp only[pt]at hnew;replace HR:=qM hm HR;replace HT:=qM hm HT;replace HB:=qd (HB.o.mod hm (λb hb=>by have hh:=hne b hb;simp<;>omega));replace HO:=qM hm HO;have z18:=(hm).size;replace ah:=qd (ah.o.trans hm (λ_ hh _=>hh) (by intro k hk hl;simp[bL]at hk|-<;>omega));replace HD:=qd hnew;clear hnew hm;go_wp2;go_roundw
   case rel=>exact⟨j+1,by omega,by go_num,_,HD.o,HO.o,HR.o,HT.o,HB.o,ah.o⟩
   case measure=>simp[intOf];omega
  ·obtain rfl:j=bl.length:=by omega
   have hlt':¬(bl.length:Int)<(bl.length:Int):=by omega
   rw[yr]at hO;obtain⟨fb,rfl,nO,hfr,_⟩:=fO.jy hO (by omega);have HD:=qd (hD);have HR:=qd (hR);have HT:=qd (hT);have HB:=qd (hB);have HF:=qd (hfr);have ah:=qd (hm);clear hD hO hR hT hB hfr hm;have z1:=qJ ah.o.size (qJ HD.o.lt (qJ HR.o.lt (qJ HT.o.aS (qJ HT.o.aT HF.o.lt))));go_upto_region 5 with fail;have dc:=HD.o.c6;have Xu:=qd (aaF ob fb vc depth (bl.map λb:Nat×Nat×Nat=>b.2.1) (by rw[qS];exact⟨n1,n2⟩) Ed.o wr.drew (HF.o.mod (Mod.drewN [] wr 1) (by simp)));rw[qS]at Xu;refine rT (λ(w':World)=>w'.cell? ⟨db,0,none⟩=some (pQ ob)/\w'.cell? ⟨db,1,none⟩=some (nI depth)/\w'.cell? ⟨db,3,none⟩=some (.slice (some ⟨fb,0,none⟩) bl.length vc)) [19] ?_;have hHeld:=(⟨dc.1,dc.2.1,dc.2.2.2.1⟩:_/\_/\_);refine vW 0 rfl ?_;refine vW 1 rfl ?_;refine vW 2 rfl ?_;refine vW 3 rfl ?_;refine vT 4 rfl ?_;refine vW 5 rfl ?_;refine vW 6 rfl ?_;refine vW 7 rfl ?_;refine vT 8 rfl ?_;refine vW 9 rfl ?_;refine vW 10 rfl ?_;refine vW 11 rfl ?_;refine vT 12 rfl ?_;refine nT 13 rfl λK hK=> ?_;go_simp;refine(Xu.o).mono ?_;rintro y w1 ⟨eb,vb,c2,Ee,hvb,hev,rfl,L6,hb⟩;replace hb:Below wr.heap.size wr w1:=bN hb (Below.refl _ _).drew;replace Ee:wr.heap.size<=eb:=Ee;replace hvb:wr.heap.size<=vb:=hvb;clear Xu dc;replace HD:=qB hb HD;replace HR:=qB hb HR;replace HT:=qB hb HT;replace HB:=qd (HB.o.mod (Mod.of_below hb []) (by simp));replace HF:=qB hb HF;have z7:=(hb).size;replace ah:=qT ah hb;have HE:=qd (L6);clear L6 hb;have dc:=HD.o.c6;go_wp2_with fail
   have hHeld:=(⟨dc.1,dc.2.1,dc.2.2.2.1⟩:_/\_/\_);refine kO hK ?_;clear hK K;refine vW 14 rfl ?_;refine vW 15 rfl ?_;refine nT 16 rfl λK hK=> ?_;go_simp;refine(Xe (some ⟨eb,0,none⟩) w1).mono ?_;rintro y w2 ⟨rfl,rfl⟩;go_wp2_with fail;have hHeld:=(⟨dc.1,dc.2.1,dc.2.2.2.1⟩:_/\_/\_);refine kO hK ?_;clear hK K;refine vW 17 rfl ?_;refine vW 18 rfl ?_;refine nT 19 rfl λK hK=> ?_;have dc:=HD.o.c6;have df:=HD.o.f6;go_simp;refine kO hK ?_;clear hK K;refine aV (by kernel_rfl) ?_ _;have q8:=qJ HD.o.lt (qJ HR.o.lt (qJ HT.o.aS (qJ HT.o.aT (qJ HF.o.lt (qJ HE.o.lt HE.o.qH)))));refine I5 HD.o ?_;rintro w3 ⟨hnew,hm⟩;simp only[pt]at hnew;replace HR:=qM hm HR;replace HT:=qM hm HT;replace HB:=qd (HB.o.mod hm (λb hb=>by have hh:=hne b hb;simp<;>omega));replace HF:=qM hm HF;replace HE:=qM hm HE;have z15:=(hm).size;replace ah:=qd (ah.o.trans hm (λ_ hh _=>hh) (by intro k hk hl;simp[bL]at hk|-<;>omega));replace HD:=qd hnew;clear hnew hm;have ad9:=Pj.o;have hd4:∀b∈bl,_:=hne
   have Xv:pY w3 db rb cap ob og fb vc eb vb c2 (bl.map λb=>b.1) (iT bl) T (List.replicate bl.length (eB n n)) n depth 0:=by
    have hlt1:(bl.map λb=>b.1).length=bl.length:=qS ..;have hlt2:(iT bl).length=bl.length:=qS ..;refine⟨by rw[hlt1,hlt2];exact HD.o,HR.o,λq hq=> ?_,by rw[Ju];exact HF.o,by rw[Ju];exact HE.o,HT.o,HB.o.ad7 ad9,L8.o,by rw[hlt2];exact⟨n1,n2⟩,by rw[hlt1,hlt2],Ed.o, ?_⟩
    ·obtain⟨b,hb,rfl⟩:=Z3.1 hq;obtain⟨i,hi⟩:=qs hb;exact HB.o.done i b hi (zz.1 hi).1
    ·have hlow:∀q∈bl.map (λb=>b.1)++gT (iT bl),q<w.heap.size/\db≠q/\rb≠q/\ob≠q/\og≠q:=λq hq=>by
      obtain⟨b,hb,Bo⟩:=jz.1 (zN hq);have hh:=hne b hb;simp[bF]at Bo
      rcases Bo with rfl|rfl|rfl<;>omega
     unfold aW;simp only[qa,zt,not_or]
     have hz:∀q,(q=db\/q=rb\/q=ob\/q=og\/w.heap.size<=q)->q∉bl.map (λb=>b.1)++gT (iT bl):=λq hq hm=>by
      have:=hlow q hm;omega
     refine⟨⟨by omega,by omega,by omega,by omega,by omega,by omega,hz _ (by omega)⟩,⟨by omega,by omega,by omega,by omega,by omega,hz _ (by omega)⟩,⟨by omega,by omega,by omega,by omega,hz _ (by omega)⟩,⟨by omega,by omega,by omega,hz _ (by omega)⟩,⟨by omega,by omega,hz _ (by omega)⟩,⟨by omega,hz _ (by omega)⟩,hz _ (by omega),(Am bl).nodup_iff.1 ad9⟩
   go_wp2;go_end0
   first|exact⟨rfl,fb,vc,eb,vb,⟨c2,Xv⟩,nO,by omega,by omega,ah.o⟩|exact⟨rfl,fb,vc,eb,vb,c2,Xv,nO,by omega,by omega,ah.o⟩
end
theorem NA {W0:World}{E:Nat->Addr}(db rb cap ob og fb cB eb vb dw:Nat)(bC:List Nat)(bs:List (Nat×Nat))(T:aC)(Ts:List aC)(n depth next:Nat)(P:MP)(x:bS)(w:World)(h:pY w db rb cap ob og fb cB eb vb dw bC bs T Ts n depth next)
  (hok:ny T) (hn:next<T.gs.length) (hfit:Fits bs.length depth Ts (bX (T.gs.getD next []))) (hM:aN w P x) (hE:Env W0 E w) (p9:P.mb∉aW db rb fb eb vb ob og bC bs) (hb0:W0.heap.size<=P.mb) (hbf:∀q∈aW db rb fb eb vb ob og bC bs,W0.heap.size<=q):
  Calls Tryz.prog 277 #[bQ db,.pointer (some ⟨P.mb,P.mo,none⟩)] w λe w'=>e= .returned (.bool true)/\pY w' db rb cap ob og fb cB eb vb dw bC bs (takeN T next 8) (fA bs.length depth ((x.add (cU 1) 1).add cV 1,Ts) (bX (T.gs.getD next []))).2 n depth (next+1)/\aN w' P (fA bs.length depth ((x.add (cU 1) 1).add cV 1,Ts) (bX (T.gs.getD next []))).1/\Mod (P.mb::aW db rb fb eb vb ob og bC bs) w w':=by
 have hnd:=h.nd;unfold aW at hnd p9 hbf;simp only[qa,zt,not_or,yq,Zs]at hnd p9;obtain⟨⟨d1,d2,d3,d4,d5,d6,d7,d8⟩,⟨r1,r2,r3,r4,r5,r6,r7⟩,⟨f1,f2,f3,f4,f5,f6⟩,⟨e1,e2,e3,e4,e5⟩,⟨v1,v2,v3,v4⟩,⟨o1,o2,o3⟩,⟨g1,g2⟩,hn1,hn2,hn3⟩:=hnd;obtain⟨m1,m2,m3,m4,m5,m6,m7,m8,m9⟩:=p9;have hfl:∀b∈bs,b.1∈gT bs/\b.2∈gT bs:=λb hb=>⟨dV.2 ⟨b,hb,.inl rfl⟩,dV.2 ⟨b,hb,.inr rfl⟩⟩
 have hS:=Xh (W0:=W0) (E:=E) eb ob og vb dw depth next bs T Ts P x h.many h.deep w h.ev h.tab hok hn h.tabs hfit hM hE
  (λb hb=>by
   obtain⟨q1,q2⟩:=hfl b hb;simp only[zt,Q1,XS,not_or]
   exact⟨⟨λe=>m9 (e▸q1),λe=>e5 (e▸q1),λe=>v4 (e▸q1),λe=>o3 (e▸q1),λe=>g2 (e▸q1)⟩,⟨λe=>m9 (e▸q2),λe=>e5 (e▸q2),λe=>v4 (e▸q2),λe=>o3 (e▸q2),λe=>g2 (e▸q2)⟩⟩)
  (by simp;omega) (by simp;omega) (by simp;omega) hb0 (hbf _ (by simp)) (hbf _ (by simp)) (hbf _ (by simp)) (λb hb=>⟨hbf _ (by simp[hfl b hb]),hbf _ (by simp[hfl b hb])⟩)
 have bc3:=h.blk.cell 3;have bc4:=h.blk.cell 4;simp only[gl]at bc3 bc4;have jT:=qd (vw db fb bs.length cB w bc3);have HS:=qd hS;have HH:=qd h;unfold bQ at jT|-;clear h hS hfit;go_in;go_wp2_with fail;refine(jT.o).mono ?_;rintro y w1 ⟨rfl,rfl⟩;go_wp2_with fail;refine(HS.o).mono ?_;rintro y w1 ⟨rfl,L6,hT,hTs,hM1,hm⟩
 have HF:=qd (show pY w1 db rb cap ob og fb cB eb vb dw bC bs (takeN T next 8) (fA bs.length depth ((x.add (cU 1) 1).add cV 1,Ts) (bX (T.gs.getD next []))).2 n depth (next+1)from by
  have hap:∀q,q≠P.mb->q≠eb->q≠ob->q≠og->q∉gT bs->q∉P.mb::eb::ob::og::gT bs:=λq a1 a2 a3 a4 a5=>by simp only[zt,not_or];exact⟨a1,a2,a3,a4,a5⟩
  refine⟨HH.o.blk.mod hm (hap _ (by omega) (by omega) (by omega) (by omega) (by assumption)),HH.o.row.mod hm (hap _ (by omega) (by omega) (by omega) (by omega) (by assumption)),λb hb=>(HH.o.pq b hb).mod hm (hap _ (λe=>m8 (e▸hb)) (λe=>e4 (e▸hb)) (λe=>o2 (e▸hb)) (λe=>g1 (e▸hb)) (λhq=>hn3 b hb b hq rfl)),
   HH.o.fresh.mod hm (hap _ (by omega) (by omega) (by omega) (by omega) (by assumption)),L6,hT,hTs,HH.o.pow,HH.o.many,HH.o.eq,HH.o.deep,HH.o.nd⟩)
 have HM:=qd (hm.more (T:=P.mb::aW db rb fb eb vb ob og bC bs) (by intro q hq;unfold aW;simp only[zt,Zs]at hq|-;rcases hq with h|h|h|h|h<;>simp[h]));have Lm:=qd hM1;clear L6 hT hTs hM1 hm;go_wp2;go_ret;exact⟨rfl,HF.o,Lm.o,HM.o⟩
