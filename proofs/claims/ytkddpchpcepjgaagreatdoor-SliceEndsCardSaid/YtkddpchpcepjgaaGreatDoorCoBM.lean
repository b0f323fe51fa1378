/- Package copyist by its contracts. -/
import Derived.Test.YtkddpchpcepjgaaGreatDoorCoBH
namespace Go.Proofs.YtkddpchpcepjgaaGreatDoor
set_option maxRecDepth 100000
set_option maxHeartbeats 4000000
open Go.RowKit cu
theorem xl:type_of% @List.length_singleton:=@List.length_singleton
section
structure jO (w:World)(cb ob oe fb fe d next:Nat)(lo lf:List Nat):Prop where
 blk:aj w cb 268 #[pQ ob,pQ fb,nI next,.bool false]
 old:dH w ob oe d lo
 fresh:dH w fb fe (d+1) lf
 le:next<=lo.length
 nd: [cb,ob,oe,fb,fe].Nodup
section
variable {w w' : World} {cb ob oe fb fe d next : Nat} {lo lf : List Nat}
theorem jO.mod {S:List Nat}(h:jO w cb ob oe fb fe d next lo lf)(hm:Mod S w w')(hs:∀q∈[cb,ob,oe,fb,fe],q∉S):jO w' cb ob oe fb fe d next lo lf:=
 ⟨h.blk.mod hm (hs _ (by simp)),h.old.mod hm (hs _ (by simp)) (hs _ (by simp)),h.fresh.mod hm (hs _ (by simp)) (hs _ (by simp)),h.le,h.nd⟩
instance {w w':World}{cb ob oe fb fe d next:Nat}{lo lf:List Nat}:Md (jO w cb ob oe fb fe d next lo lf) w w' (jO w' cb ob oe fb fe d next lo lf) (λS=>∀q∈[cb,ob,oe,fb,fe],q∉S):=⟨λh hm hs=>h.mod hm hs⟩
theorem jO.lt (h:jO w cb ob oe fb fe d next lo lf):cb<w.heap.size:=h.blk.lt
end
def qR (b:Nat):Value:=pQ b
def vC (lf:List Nat)(i id:Nat):Nat->List Nat
 |0=>lf
 |j+1=>(vC lf i id j).set (2*i+j) id
theorem vS (lf:List Nat)(i id:Nat):∀j,(vC lf i id j).length=lf.length
 |0=>rfl
 |j+1=>by unfold vC;rw[qq,vS lf i id j]
theorem RI (ob oe d:Nat)(lo:List Nat)(hd:d<5)(w:World)(h:dH w ob oe d lo):
  Calls Tryz.prog 130 #[jf ob] w λe w'=>∃cb fb fe,e= .returned (.tuple #[qR cb,.nilIface])/\jO w' cb ob oe fb fe d 0 lo (List.replicate (2^(d+1)) 0)/\(w.heap.size<=cb/\w.heap.size<=fb/\w.heap.size<=fe)/\Below w.heap.size w w':=by
 have hol:=h.lt;have hoe:=h.Ms;have Ed:=qd (Mt ob oe d lo w h);have jJ:=qd (Tf (d+1) (by omega) w)
 have hd1:((d+1:Nat):Int)=(d:Int)+1:=by omega
 rw[hd1]at jJ;have HO:=qd h;unfold jf at Ed jJ|-;clear h hd1;go_in;go_wp2_with fail;refine(Ed.o).mono ?_;rintro y w1 ⟨rfl,rfl⟩;go_wp2_with fail;refine(jJ.o).mono ?_;rintro y w1 ⟨rfl,hF,hb⟩;have HF:=qd hF;have Hb:=qd hb;clear hF hb;go_wp2;refine bodyPost_ret (v:= .tuple #[pQ w1.heap.size,.nilIface]) (by simp[results,Tryz.results130,go_sem]) rfl ?_;have hbs:=Hb.o.size;have hl1:=HF.o.lt;have hB2:=Mod.of_below ((Below.refl w1.heap.size w1).alloc (zb _) (.cells #[pQ ob,.pointer (some ⟨(w.heap.size+1),0,none⟩),.int .i64 0,.bool false] 268)) [];have hne:=HO.o.ne;exact⟨w1.heap.size,w.heap.size+1,w.heap.size,rfl,⟨aj.new w1 _ _,(HO.o.mod (Mod.of_below Hb.o []) (by simp) (by simp)).mod hB2 (by simp) (by simp),HF.o.mod hB2 (by simp) (by simp),Q4 _,by simp;omega⟩,⟨by omega,by omega,by omega⟩,Hb.o.alloc hbs _⟩
theorem yZ (cb ob oe fb fe d next:Nat)(lo lf:List Nat)(w:World)(h:jO w cb ob oe fb fe d next lo lf):
  Calls Tryz.prog 217 #[qR cb] w λe w'=>e= .returned (.int .i64 ((lo.length-next:Nat):Int))/\w.drew=w':=by
 have kU:=qd (ac6 ob oe d lo w.drew (h.old.mod (Mod.drewN [] w 1) (by simp) (by simp)));have hle:=h.le;have hls:=h.old.small;obtain⟨n,hn⟩:∃n,n=lo.length:=⟨_,rfl⟩;rw[<-hn]at kU hle hls|-
 have hwr:IntKind.i64.wrap ((n:Int)-(next:Int))=((n-next:Nat):Int):=by rw[SQ hle,ZZ];omega
 unfold jf at kU;unfold qR;have c0:=h.blk.cell 0;have c2:=h.blk.cell 2;simp only[gl]at c0 c2;clear h hn;go_in;go_upto_region 1 with fail;refine rT (λ(w':World)=>w'.cell? ⟨cb,0,none⟩=some (pQ ob)/\w'.cell? ⟨cb,2,none⟩=some (nI next)) [] ?_;have hHeld:=(⟨c0,c2⟩:_/\_);refine vW 0 rfl ?_;refine vW 1 rfl ?_;refine vW 2 rfl ?_;refine vT 3 rfl ?_;refine vW 5 rfl ?_;refine vW 6 rfl ?_;refine vW 7 rfl ?_;refine vT 8 rfl ?_;refine nT 4 rfl λK hK=> ?_;go_simp;refine(kU.o).mono ?_;rintro y w1 ⟨rfl,rfl⟩;go_wp2_with fail;have hHeld:=(⟨c0,c2⟩:_/\_);refine kO hK ?_;clear hK K;refine vW 9 rfl ?_;refine vW 10 rfl ?_;refine aV (by kernel_rfl) ?_ _;go_wp2;go_ret;exact⟨rfl,rfl⟩
theorem Bz (cb ob oe fb fe d next:Nat)(lo lf:List Nat)(i:Nat)(hi:i<lo.length)(w:World)(h:jO w cb ob oe fb fe d next lo lf):
  Calls Tryz.prog 242 #[qR cb,nI i] w λe w'=>e= .returned undef/\dH w' fb fe (d+1) (vC lf i (lo.getD i 0) 2)/\Mod [fe] w w':=by
 have hnd:=h.nd;simp at hnd;have bI:=qd (Mv ob oe d lo i hi w h.old);obtain⟨id,hid⟩:∃id,id=lo.getD i 0:=⟨_,rfl⟩;rw[<-hid]at bI|-;have hls:=h.old.small;have hl1:=h.old.len;have hl2:=h.fresh.len;have hp:=xd 2 d
 have hil:2*i+1<lf.length:=by omega
 have O1:=qd (vk (id:Int) w);have Pj:=qd (Ea);have HF:=qd h.fresh;unfold jf at bI;unfold qR
 have hi0:(0:Int)<=(i:Int):=by omega
 have aic:i<32:=by omega
 have HC:=qd (h.blk);have ah:=qd (Mod.refl [fe] w);clear h hid hl1 hl2 hp hi;go_in;have cc:=HC.o.c4;go_wp2_with fail;refine(bI.o).mono ?_;rintro y w1 ⟨rfl,rfl⟩;go_wp2_with fail;refine(O1.o).mono ?_;rintro y w1 ⟨rfl,rfl⟩;go_wp2;clear cc;go_loopw [5,15] (λ_ k wr=>∃j:Nat,j<=2/\k= .int .i64 j/\dH wr fb fe (d+1) (vC lf i id j)/\aj wr cb 268 #[pQ ob,pQ fb,nI next,.bool false]/\Mod [fe] w wr) (λ_ k _=>2-(intOf k).toNat)
 case atStart=>exact⟨0,by omega,rfl,HF.o,HC.o,ah.o⟩
 case round=>
  clear HF HC ah;obtain⟨j,hj,rfl,hF,hC,hm⟩:=hrel;by_cases hlt:j<2
  ·have hlt':(j:Int)<2:=by omega
   have hj0:(0:Int)<=(j:Int):=by omega
   have hln:(vC lf i id j).length=lf.length:=vS lf i id j;have Ec:=qd (ac7 fb fe (d+1) _ (2*i+j) id (by omega) wr hF)
   have aee:((2*i+j:Nat):Int)=2*(i:Int)+(j:Int):=by omega
   rw[aee]at Ec;unfold jf at Ec
   have hw1:IntKind.i64.wrap (2*(i:Int))=2*(i:Int):=by rw[ZZ];omega
   have hw2:IntKind.i64.wrap (2*(i:Int)+(j:Int))=2*(i:Int)+(j:Int):=by rw[ZZ];omega
   have HC:=qd (hC);have ah:=qd (hm);clear hF hC hm aee hln;have cc:=HC.o.c4;go_wp2_with fail;refine(Ec.o).mono ?_;rintro x w2 ⟨rfl,hF2,hm⟩;clear cc;replace HC:=qM hm HC;have z1:=(hm).size;replace ah:=qU ah hm;clear hm;have Df:=qd (show dH w2 fb fe (d+1) (vC lf i id (j+1))from hF2);clear hF2 Ec;go_wp2_with fail;refine(Pj.o _).mono ?_;rintro y w3 ⟨rfl,rfl⟩;go_wp2;go_roundw
   case rel=>exact⟨j+1,by omega,by go_num,Df.o,HC.o,ah.o⟩
   case measure=>simp[intOf];omega
  ·obtain rfl:j=2:=by omega
   have hlt':¬((2:Nat):Int)<2:=by omega
   have HZ:=qd (And.intro hF hm);clear hF hC hm;go_wp2;go_end0;exact⟨rfl,HZ.o⟩
theorem PK (cb ob oe fb fe d next:Nat)(lo lf:List Nat)(P:MP)(x:bS)(hnx:next<lo.length)(w:World)(h:jO w cb ob oe fb fe d next lo lf)(hM:aN w P x)(p9:P.mb∉[cb,ob,oe,fb,fe]):
  Calls Tryz.prog 294 #[qR cb,.pointer (some ⟨P.mb,P.mo,none⟩)] w λe w'=>e= .returned (.bool true)/\jO w' cb ob oe fb fe d (next+1) lo (vC lf next (lo.getD next 0) 2)/\aN w' P (x.add (cU 1) 1)/\Mod [P.mb,cb,fe] w w':=by
 have hnd:=h.nd;simp at hnd;simp only[zt,Q1,XS,not_or]at p9;have hml:=hM.lt;have jQ:=qd (yZ cb ob oe fb fe d next lo lf w h)
 obtain⟨dn,hdn⟩:∃dn,dn=lo.length-next:=⟨_,rfl⟩
 rw[<-hdn]at jQ
 have hd0:¬(dn:Int)=0:=by omega
 have hd1:¬dn=0:=by omega
 have hls:=h.old.small;unfold qR at jQ|-;clear hdn;have HK:=qd (h);have HM:=qd (hM);have ah:=qd (Mod.refl [P.mb,cb,fe] w);clear h hM;go_in;go_wp2_with fail;refine(jQ.o).mono ?_;rintro y w1 ⟨rfl,hw1⟩;have hm:Mod [] w w1:=hw1▸Mod.drewN [] w 1;clear hw1 jQ;replace HK:=qd (HK.o.mod hm (by intro q hq;simp at hq;simp<;>omega));replace HM:=qM hm HM;have z1:=(hm).size;replace ah:=qU ah hm;clear hm;have HU:=qd (tC P.mb P.mt P.pre P.post P.mo _ _ P.m 1 (by omega) w1 HM.o);clear HM;go_wp2_with fail;refine(HU.o).mono ?_;rintro x w2 ⟨rfl,hM2,hm⟩;replace HK:=qd (HK.o.mod hm (by intro q hq;simp at hq;simp<;>omega));have z2:=(hm).size;replace ah:=qU ah hm;clear hm;have HM:=qd (show aN w2 P (x.add (cU 1) 1)from hM2);clear hM2 HU;have uT:=qd (Bz cb ob oe fb fe d next lo lf next hnx w2 HK.o);unfold qR at uT;have HB:=qd HK.o.blk;have HO:=qd HK.o.old;have qg:=qd HK.o.nd;clear HK;have bc:=HB.o.c4;go_wp2_with fail;refine(uT.o).mono ?_;rintro x w3 ⟨rfl,hF,hm⟩;clear bc;replace HM:=qM hm HM;replace HB:=qM hm HB;replace HO:=qM hm HO;have z3:=(hm).size;replace ah:=qU ah hm;clear hm;have HF:=qd (hF);clear hF uT;have bc:=HB.o.c4;have bf:=HB.o.f4;go_upto_region 6 with fail;have q4:=qJ HM.o.lt (qJ HB.o.lt (qJ HO.o.lt (qJ HO.o.Ms (qJ HF.o.lt HF.o.Ms))));refine I5 HB.o ?_;rintro w4 ⟨hnew,hm⟩;simp only[pt]at hnew;replace HM:=qM hm HM;replace HO:=qM hm HO;replace HF:=qM hm HF;have z10:=(hm).size;replace ah:=qU ah hm;replace HB:=qd hnew;clear hnew hm;go_wp2;go_ret
 exact⟨rfl,⟨HB.o,HO.o,HF.o,by omega,qg.o⟩,HM.o,ah.o⟩
theorem PN (cb ob oe fb fe d next:Nat)(lo lf:List Nat)(hnx:next=lo.length)(w:World)(h:jO w cb ob oe fb fe d next lo lf):
  Calls Tryz.prog 180 #[qR cb] w λe w'=>e= .returned (.tuple #[jf fb,.nilIface])/\dH w' fb fe (d+1) lf/\Mod [cb] w w':=by
 have hnd:=h.nd;simp at hnd;have jQ:=qd (yZ cb ob oe fb fe d next lo lf w h);rw[show lo.length-next=0 by omega]at jQ;unfold qR at jQ|-;unfold jf;have HB:=qd (h.blk);have HF:=qd (h.fresh);have ah:=qd (Mod.refl [cb] w);clear h;go_in;go_wp2_with fail;refine(jQ.o).mono ?_;rintro y w1 ⟨rfl,hw1⟩;have hm:Mod [] w w1:=hw1▸Mod.drewN [] w 1;clear hw1 jQ;replace HB:=qM hm HB;replace HF:=qM hm HF;have z1:=(hm).size;replace ah:=qU ah hm;clear hm;have bc:=HB.o.c4;have bf:=HB.o.f4;go_upto_region 4 with fail;have q2:=qJ HB.o.lt (qJ HF.o.lt HF.o.Ms);refine I5 HB.o ?_;rintro w2 ⟨hnew,hm⟩;simp only[pt]at hnew;clear bc bf;replace HF:=qM hm HF;have z5:=(hm).size;replace ah:=qU ah hm;replace HB:=qd hnew;clear hnew hm;have bc:=HB.o.c4;go_wp2;refine bodyPost_ret (v:= .tuple #[pQ fb,.nilIface]) (by simp[results,Tryz.results180,go_sem]) rfl ⟨rfl,HF.o,ah.o⟩
end
def qV (lf lo:List Nat)(fr:Nat):Nat->List Nat
 |0=>lf
 |j+1=>vC (qV lf lo fr j) (fr+j) (lo.getD (fr+j) 0) 2
theorem Aq (lf lo:List Nat)(fr:Nat):∀j,(qV lf lo fr j).length=lf.length
 |0=>rfl
 |j+1=>by unfold qV;rw[vS,Aq lf lo fr j]
theorem RJ (cb ob oe fb fe d next:Nat)(lo lf:List Nat)(p pd id:Nat)(h1:pd<=d)(hp:p<2^pd)(w:World)(h:jO w cb ob oe fb fe d next lo lf):
  Calls Tryz.prog 220 #[qR cb,nI p,nI pd,nI id] w λe w'=>
   e= .returned (.tuple #[.int .i64 ((2^(d-pd)+2*(min (dA p pd d+2^(d-pd)) next-dA p pd d):Nat):Int),.nilIface])/\
   jO w' cb ob oe fb fe d next (j6 lo (dA p pd d) id (2^(d-pd))) (qV lf (j6 lo (dA p pd d) id (2^(d-pd))) (dA p pd d) (min (dA p pd d+2^(d-pd)) next-dA p pd d))/\Mod [oe,fe] w w':=by
 have hnd:=h.nd;simp at hnd;have hft:=Fv h1 hp;have hlo:=h.old.len;have hls:=h.old.small;have hnl:=h.le;have iV:=qd (Tg ob oe d lo p pd h1 hp id w h.old);have Dl:=qd (λV (hV:dH V ob oe d (j6 lo (dA p pd d) id (2^(d-pd))))=>PI ob oe d _ p pd h1 hp V hV);obtain⟨fr,hfr⟩:∃fr,fr=dA p pd d:=⟨_,rfl⟩;obtain⟨n,hn⟩:∃n,n=2^(d-pd):=⟨_,rfl⟩;rw[<-hfr,<-hn]at hft iV Dl|-;obtain⟨lo2,hlo2⟩:∃l,l=j6 lo fr id n:=⟨_,rfl⟩
 have hl2:lo2.length=lo.length:=by rw[hlo2,mY]
 rw[<-hlo2]at iV Dl|-
 obtain⟨mn,hmn⟩:∃q:Nat,q=min (fr+n) next:=⟨_,rfl⟩
 rw[<-hmn];have HMn:=qd hmn;have Pj:=qd h.nd
 have aie:¬(id:Int)<0:=by omega
 unfold jf at iV Dl;unfold qR;have HB:=qd (h.blk);have HF:=qd (h.fresh);have ah:=qd (Mod.refl [oe,fe] w);clear h hfr hn hlo2 hp h1 hmn;go_in;obtain⟨bc0,bc1,bc2,bc3⟩:=HB.o.c4;go_wp2_with fail;refine(iV.o).mono ?_;rintro x w1 ⟨rfl,hO,hm⟩;clear bc0 bc1 bc2 bc3;replace HB:=qM hm HB;replace HF:=qM hm HF;have z1:=(hm).size;replace ah:=qU ah hm;clear hm;have HO:=qd (hO);clear hO iV;obtain⟨bc0,bc1,bc2,bc3⟩:=HB.o.c4;go_wp2_with fail;refine(Dl.o _ HO.o).mono ?_;rintro y w2 ⟨rfl,hw2⟩;have hm:Mod [] w1 w2:=hw2▸Mod.drewN [] w1 1;clear hw2 Dl bc0 bc1 bc2 bc3;replace HB:=qM hm HB;replace HF:=qM hm HF;replace HO:=qM hm HO;have z2:=(hm).size;replace ah:=qU ah hm;clear hm;go_wp2;go_loopw [10,14] (λvn vi wr=>∃j:Nat,fr+j<=max fr mn/\vi= .int .i64 ((fr+j:Nat):Int)/\vn= .int .i64 ((n+2*j:Nat):Int)/\aj wr cb 268 #[pQ ob,pQ fb,nI next,.bool false]/\dH wr ob oe d lo2/\dH wr fb fe (d+1) (qV lf lo2 fr j)/\Mod [oe,fe] w wr) (λ_ vi _=>max fr mn-(intOf vi).toNat)
 case atStart=>exact⟨0,by omega,rfl,by simp,HB.o,HO.o,HF.o,ah.o⟩
 case round=>
  clear HB HO HF ah;obtain⟨j,hj,rfl,rfl,hB,hO,hF,hm⟩:=hrel;have hmd:=HMn.o;by_cases hlt:fr+j<mn
  ·have uT:=qd (Bz cb ob oe fb fe d next lo2 (qV lf lo2 fr j) (fr+j) (by omega) wr ⟨hB,hO,hF,by omega,Pj.o⟩)
   try simp only[nI]at uT
   rw[show((fr+j:Nat):Int)=(fr:Int)+(j:Int) by omega]at uT;unfold qR at uT;have HB:=qd (hB);have HO:=qd (hO);have ah:=qd (hm);clear hB hO hF hm;obtain⟨bc0,bc1,bc2,bc3⟩:=HB.o.c4
   by_cases hc:next<fr+n
   focus
    have hcI:(next:Int)<(fr:Int)+(n:Int):=by omega
    have hlt':(fr:Int)+(j:Int)<(next:Int):=by omega
   rotate_left
   focus
    have hcI:¬(next:Int)<(fr:Int)+(n:Int):=by omega
    have hlt':(fr:Int)+(j:Int)<(fr:Int)+(n:Int):=by omega
   all_goals
    go_wp2_with fail;refine(uT.o).mono ?_;rintro x w3 ⟨rfl,hF2,hm⟩;clear bc0 bc1 bc2 bc3;replace HB:=qM hm HB;replace HO:=qM hm HO;have agk:=(hm).size;replace ah:=qU ah hm;clear hm;have Df:=qd (show dH w3 fb fe (d+1) (qV lf lo2 fr (j+1))from hF2);clear hF2 uT;go_wp2;go_roundw
    case rel=>exact⟨j+1,by omega,by first|go_num|(simp;rw[ZZ];omega)|(simp;omega),by first|go_num|(simp;omega),HB.o,HO.o,Df.o,ah.o⟩
    case measure=>simp[intOf];omega
  ·have hjm:j=mn-fr:=by omega
   have HZ:=qd (show jO wr cb ob oe fb fe d next lo2 (qV lf lo2 fr (mn-fr))/\Mod [oe,fe] w wr from⟨⟨hB,hO,hjm▸hF,by omega,Pj.o⟩,hm⟩);have bc2:=hB.cell 2;simp only[gl]at bc2
   have hres:(n:Int)+2*(j:Int)=((n+2*(mn-fr):Nat):Int):=by omega
   have jU:=qd hres;clear hB hO hF hm hres hjm
   by_cases hc:next<fr+n
   focus
    have hcI:(next:Int)<(fr:Int)+(n:Int):=by omega
    have hlt':¬(fr:Int)+(j:Int)<(next:Int):=by omega
   rotate_left
   focus
    have hcI:¬(next:Int)<(fr:Int)+(n:Int):=by omega
    have hlt':¬(fr:Int)+(j:Int)<(fr:Int)+(n:Int):=by omega
   all_goals
    clear hmd;go_wp2;refine bodyPost_ret (v:= .tuple #[.int .i64 ((n:Int)+2*(j:Int)),.nilIface]) (by simp[results,Tryz.results220,go_sem]) rfl ⟨by rw[jU.o]<;>simp,HZ.o⟩
section
structure gI (w:World)(qb rb:Nat)(ring:List Nat)(first:Nat)(ids:List Nat):Prop where
 blk:aj w qb 218 #[.slice (some ⟨rb,0,none⟩) 40 40,nI first,nI ids.length]
 row:aj w rb 3 (intCells ring)
 len:ring.length=40
 El:first<40
 many:ids.length<=40
 at_:∀i,i<ids.length->ring.getD ((first+i) % 40) 0=ids.getD i 0
 ne:qb≠rb
section
variable {w w' : World} {qb rb : Nat} {ring : List Nat} {first : Nat} {ids : List Nat}
theorem gI.mod {S:List Nat}(h:gI w qb rb ring first ids)(hm:Mod S w w')(h1:qb∉S)(h2:rb∉S):gI w' qb rb ring first ids:=⟨h.blk.mod hm h1,h.row.mod hm h2,h.len,h.El,h.many,h.at_,h.ne⟩
instance {w w':World}{qb rb first:Nat}{ring ids:List Nat}:Md (gI w qb rb ring first ids) w w' (gI w' qb rb ring first ids) (λS=>qb∉S/\rb∉S):=⟨λh hm hs=>h.mod hm hs.1 hs.2⟩
theorem gI.lt (h:gI w qb rb ring first ids):qb<w.heap.size:=h.blk.lt
theorem gI.Mw (h:gI w qb rb ring first ids):rb<w.heap.size:=h.row.lt
theorem gI.entry (h:gI w qb rb ring first ids){i:Nat}(hi:i<40):w.cell? ⟨rb,i,none⟩=some (.int .i64 ((ring.getD i 0:Nat):Int)):=by
 rw[h.row.cell i];unfold intCells;rw[zr,Q3,zv,zg (by rw[h.len];exact hi)];rfl
end
def qL (b:Nat):Value:=pQ b
def dK (l:List Nat):List Value:=l.map λn:Nat=>Value.int .i64 (n:Int)
theorem XB (w:World):
  Calls Tryz.prog 92 #[.int .i64 40] w λe w'=>e= .returned (.tuple #[qL (w.heap.size+1),.nilIface])/\gI w' (w.heap.size+1) w.heap.size (List.replicate 40 0) 0 []/\Below w.heap.size w w':=by
 have hmk:=Mr 40 (by omega) w;have hc:((40:Nat):Int)=40:=rfl;rw[hc]at hmk
 have HE:=qd (show gI ((w.alloc (.cells (intCells (List.replicate 40 0)) 3)).alloc (.cells #[.slice (some ⟨w.heap.size,0,none⟩) 40 40,.int .i64 0,.int .i64 0] 218)) (w.heap.size+1) w.heap.size (List.replicate 40 0) 0 []from by
  refine⟨?_,(aj.new w _ _).alloc _,by simp,by omega,by simp,λi hi=>by simp at hi,by omega⟩;have:=aj.new (w.alloc (.cells (intCells (List.replicate 40 0)) 3)) 218 #[.slice (some ⟨w.heap.size,0,none⟩) 40 40,.int .i64 0,.int .i64 0];rw[xN]at this
  exact this)
 clear hc;unfold qL;go_in;go_wp2;refine bodyPost_ret (v:= .tuple #[.pointer (some ⟨w.heap.size+1,0,none⟩),.nilIface]) (by simp[results,Tryz.results92,go_sem]) rfl ⟨rfl,HE.o, ?_⟩;exact((Below.refl _ _).alloc (zb _) _).alloc (by simp) _
theorem Hg (qb rb:Nat)(ring:List Nat)(first:Nat)(ids:List Nat)(i:Nat)(hi:i<=100)(w:World)(h:gI w qb rb ring first ids):
  Calls Tryz.prog 235 #[qL qb,nI i] w λe w'=>e= .returned (.int .i64 (((first+i) % 40:Nat):Int))/\w.drew=w':=by
 have hf:=h.El
 have hw1:IntKind.i64.wrap ((first:Int)+(i:Int))=(first:Int)+(i:Int):=by rw[ZZ];omega
 have hrm:((first:Int)+(i:Int)).tmod 40=(((first+i) % 40:Nat):Int):=by rw[show(first:Int)+(i:Int)=((first+i:Nat):Int) by omega];rfl
 obtain⟨r,hr⟩:∃r,r=(first+i) % 40:=⟨_,rfl⟩;rw[<-hr]at hrm|-
 have KM:r<40:=by omega
 have hw2:IntKind.i64.wrap (r:Int)=(r:Int):=by rw[ZZ];omega
 unfold qL;obtain⟨c0,c1⟩:=h.blk.c2;clear h hr;go_in;go_upto_region 1 with fail;refine rT (λ(w':World)=>w'.cell? ⟨qb,0,none⟩=some (.slice (some ⟨rb,0,none⟩) 40 40)/\w'.cell? ⟨qb,1,none⟩=some (nI first)) [] ?_;have hHeld:=(⟨c0,c1⟩:_/\_);refine vW 0 rfl ?_;refine vW 1 rfl ?_;refine vW 2 rfl ?_;refine vT 3 rfl ?_;refine vW 4 rfl ?_;refine vW 5 rfl ?_;refine vW 6 rfl ?_;refine vW 7 rfl ?_;refine vW 8 rfl ?_;refine vT 9 rfl ?_;refine vW 10 rfl ?_;refine vW 11 rfl ?_;refine vW 12 rfl ?_;refine aV (by kernel_rfl) ?_ _;go_wp2;go_ret;exact⟨rfl,rfl⟩
theorem NK (qb rb:Nat)(ring:List Nat)(first:Nat)(_:List Nat)(w:World)(h:gI w qb rb ring first []):
  Calls Tryz.prog 213 #[qL qb] w λe w'=>e= .returned (.tuple #[.int .i64 0,.bool false])/\w=w':=by
 have c2:=h.blk.cell 2;simp only[zr,zc,Q2,yv]at c2;clear h;unfold qL;go_in;go_wp2;refine bodyPost_ret (v:= .tuple #[.int .i64 0,.bool false]) (by simp[results,Tryz.results213,go_sem]) rfl ⟨rfl,rfl⟩
theorem U6 (qb rb:Nat)(ring:List Nat)(first id:Nat)(ids:List Nat)(w:World)(h:gI w qb rb ring first (id::ids)):
  Calls Tryz.prog 213 #[qL qb] w λe w'=>e= .returned (.tuple #[nI id,.bool true])/\w.drew=w':=by
 have hf:=h.El;have ce:=h.entry hf;have h0:=h.at_ 0 (by simp);rw[ky,vt hf]at h0;rw[h0]at ce;simp only[List.getD_cons_zero]at ce;obtain⟨c0,c1,c2⟩:=h.blk.c3;obtain⟨n,hn⟩:∃n,n=(id::ids).length:=⟨_,rfl⟩;rw[<-hn]at c2
 have hn0:¬(n:Int)=0:=by rw[hn];simp;omega
 have hn1:¬n=0:=by omega
 have hf':(first:Int)<40:=by omega
 have hf0:(0:Int)<=(first:Int):=by omega
 clear h h0 hn;unfold qL;go_in;go_upto_region 3 with fail;refine rT (λ(w':World)=>w'.cell? ⟨qb,0,none⟩=some (.slice (some ⟨rb,0,none⟩) 40 40)/\w'.cell? ⟨qb,1,none⟩=some (nI first)/\w'.cell? ⟨rb,first,none⟩=some (nI id)) [] ?_;have hHeld:=(⟨c0,c1,ce⟩:_/\_/\_);refine vW 0 rfl ?_;refine vW 1 rfl ?_;refine vW 2 rfl ?_;refine vT 3 rfl ?_;refine vW 4 rfl ?_;refine vW 5 rfl ?_;refine vW 6 rfl ?_;refine vT 7 rfl ?_;refine vW 8 rfl ?_;refine vT 9 rfl ?_;refine vW 10 rfl ?_;refine vW 11 rfl ?_;refine aV (by kernel_rfl) ?_ _;go_wp2;refine bodyPost_ret (v:= .tuple #[nI id,.bool true]) (by simp[results,Tryz.results213,go_sem]) rfl ⟨rfl,rfl⟩
end
theorem za:sZ Tryz.prog 178 3 1 8:=BO Tryz.underlying178 He rfl (by decide) (by decide)
theorem U7 (n:Nat)(hn:n<=65536)(W:World):(Instr.makeSlice 178 (.int .i64 0) (nI n)).run Tryz.prog W= .ok (.slice (some ⟨W.heap.size,0,none⟩) 0 n) (W.alloc (.cells (intCells (List.replicate n 0)) 3)):=by
 obtain⟨i,hi,hz0,hz1,hz2⟩:=info_parts He;have:=run_makeSlice (P:=Tryz.prog) (w:=W) 178 3 i (.int .i64 0) Tryz.underlying178 hi hz0 .i64 .i64 0 (n:Int) (by omega) (by omega) (by rw[hz1];omega) (by rw[hz2];omega) (by omega);rw[this,hz1,vm]
 have e:madeCells (Value.int .i64 0).cells (n*1)=intCells (List.replicate n 0):=by
  rw[Ci (z:=(Value.int .i64 0).cells) (k:=1) (v:= .int .i64 0) rfl (by omega),Nat.mul_one];unfold intCells;rw[List.map_replicate];rfl
 rw[e];rfl
theorem PO {l:List Nat}{j:Nat}{n:Nat}(h:l[j]?=some n):dK (l.take j)++[nI n]=dK (l.take (j+1)):=by
 rw[r9 h];simp[dK]
theorem nS {w:World}{base n c:Nat}{A:Option Addr}{l:List Nat}(h:w.ownsRow base 3 1 (.slice A n c) n (dK l)){j v:Nat}(hj:l[j]?=some v):∃g,A=some ⟨g,0,none⟩/\base<=g/\g<w.heap.size/\w.cell? ⟨g,j,none⟩=some (nI v)/\l.length=n:=by
 have hl:=h.1
 have hln:l.length=n:=by simpa[dK]using hl
 obtain⟨hlt,_⟩:=zz.1 hj;rcases h.2 with hz|⟨g,cap,cur,hv,hb,hg,_⟩
 ·omega
 ·cases hv;refine⟨g,rfl,hb,(qi.1 hg).1, ?_,hln⟩;have:=h.cellAt j (by omega);rw[this];unfold dK;rw[Q3,hj];rfl
theorem Cq (qb rb:Nat)(ring:List Nat)(first:Nat)(ids:List Nat)(w:World)(h:gI w qb rb ring first ids):
  Calls Tryz.prog 237 #[qL qb] w λe w'=>∃A c,e= .returned (.slice A ids.length c)/\w'.ownsRow w.heap.size 3 1 (.slice A ids.length c) ids.length (dK ids)/\Below w.heap.size w w':=by
 have hmn:=h.many;have hql:=h.lt;have hrl:=h.Mw;have HQ0:=qd h;obtain⟨n,hn⟩:∃n,n=ids.length:=⟨_,rfl⟩;have HN:=qd hn
 have aef:n<=40:=by omega
 have hmk:=U7 n (by omega) w;have c2:=h.blk.cell 2;simp only[gl]at c2;rw[<-hn]at c2|-;have HO:=qd (World.ownsRow_made (base:=w.heap.size) (e:=3) (size:=1) w (intCells (List.replicate n 0)) n (zb _) (by simp only[maxLen];omega) (by simp[intCells]));have HB:=qd ((Below.refl w.heap.size w).alloc (zb _) (.cells (intCells (List.replicate n 0)) 3));clear h hn;unfold qL;go_in;go_wp2;clear hmk c2;go_loopw [3,4,14] (λv3 _ i wr=>∃j:Nat,j<=n/\i= .int .i64 j/\wr.ownsRow w.heap.size 3 1 v3 j (dK (ids.take j))/\Below w.heap.size w wr) (λ_ _ i _=>n-(intOf i).toNat)
 case atStart=>exact⟨0,by omega,rfl,by simpa[dK]using HO.o,HB.o⟩
 case round=>
  clear HO HB;obtain⟨j,hj,rfl,hO,hB⟩:=hrel;obtain⟨A,vc,rfl⟩:=bq hO;by_cases hlt:j<n
  ·have hlt':(j:Int)<(n:Int):=by omega
   have hj0:(0:Int)<=(j:Int):=by omega
   have hQ:=HQ0.o.mod (Mod.of_below hB []) (by simp) (by simp);have hnn:=HN.o;obtain⟨id,hid⟩:∃id,ids[j]?=some id:=⟨_,zg (by omega)⟩;have hrg:=hQ.at_ j (by omega);rw[zv (l:=ids),hid]at hrg;have eO:=qd (PO hid);have KM:(first+j) % 40<40:=kA _ (by omega);have jH:=qd (λV hV=>Hg qb rb ring first ids j (by omega) V hV);obtain⟨q,hq⟩:∃q,q=(first+j) % 40:=⟨_,rfl⟩;rw[<-hq]at hrg KM jH;clear hq hid;unfold qL at jH
   have hq0:(0:Int)<=(q:Int):=by omega
   have hq1:(q:Int)<40:=by omega
   have HQ:=qd (hQ);have HO:=qd (hO);have ah:=qd (Mod.of_below hB []);have nV:=qd hB;have aif:=hB.size;clear hQ hO hB hnn;go_upto_region 5 with fail;have ce:=HQ.o.entry KM;rw[hrg]at ce;simp only[Ys]at ce;have c0:=HQ.o.blk.cell 0;simp only[zr,zc]at c0;refine rT (λ(w':World)=>w'.cell? ⟨qb,0,none⟩=some (.slice (some ⟨rb,0,none⟩) 40 40)/\w'.cell? ⟨rb,q,none⟩=some (nI id)) [] ?_;have hHeld:=(⟨c0,ce⟩:_/\_);refine vW 0 rfl ?_;refine vW 1 rfl ?_;refine vW 2 rfl ?_;refine vW 3 rfl ?_;refine vT 4 rfl ?_;refine vW 5 rfl ?_;refine vW 6 rfl ?_;refine nT 7 rfl λK hK=> ?_;go_simp;refine(jH.o _ (HQ.o.mod (Mod.drewN [] wr 1) (by simp) (by simp))).mono ?_;rintro y w1 ⟨rfl,hw1⟩;have hm:Mod [] wr w1:=hw1▸Mod.drewN [] wr 2;clear hw1 ce c0;replace HQ:=qM hm HQ;replace HO:=qM hm HO;have z1:=(hm).size;replace ah:=qU ah hm;clear hm;have ce:=HQ.o.entry KM;rw[hrg]at ce;simp only[Ys]at ce;have c0:=HQ.o.blk.cell 0;simp only[zr,zc]at c0;go_wp2_with fail;have hHeld:=(⟨c0,ce⟩:_/\_);refine kO hK ?_;clear hK K;refine vW 8 rfl ?_;refine vT 9 rfl ?_;refine nT 10 rfl λK hK=> ?_;go_simp;have q2:=qJ HQ.o.lt (qJ HQ.o.Mw ah.o.size);refine dL 3 #[nI id] ?_;rintro w3 ⟨hnew,hb⟩;obtain⟨xb,hxb⟩:∃xb,xb=w1.heap.size:=⟨_,rfl⟩;rw[<-hxb]at hnew|-
   replace hxb:w1.heap.size<=xb:=by omega
   clear ce c0;replace HQ:=qB hb HQ;replace HO:=qB hb HO;have z5:=(hb).size;replace ah:=qT ah hb;have HX:=qd (hnew);clear hnew hb;have ce:=HQ.o.entry KM;rw[hrg]at ce;simp only[Ys]at ce;have c0:=HQ.o.blk.cell 0;simp only[zr,zc]at c0;have hHeld:=(⟨c0,ce⟩:_/\_);refine kO hK ?_;clear hK K;refine nT 11 rfl λK hK=> ?_;refine oL (by rfl) (by rfl) za HO.o (by rfl) (by rfl) (rZ (size:=1) (m:=1) HX.o (by rfl)) (by rfl) (by omega) (by have:=ah.o.size;omega) ?_;intro v4 w4 dM iP;have hown5:w4.ownsRow w.heap.size 3 1 v4 (j+1) (dK (ids.take (j+1))):=eO.o▸dM;clear dM;obtain⟨A4,vc4,rfl⟩:=bq hown5;have hb4:=iP.below;clear HX HO ce c0;replace HQ:=qd (HQ.o.mod (mX hb4) (by simp[xp]<;>omega) (by simp[xp]<;>omega));have z6:=(hb4).size;replace ah:=qd (ah.o.trans (mX hb4) (λ_ hh _=>hh) (by intro k hk hl;simp[xp]at hk;omega));have HO:=qd hown5;clear hown5 hb4;have ce:=HQ.o.entry KM;rw[hrg]at ce;simp only[Ys]at ce;have c0:=HQ.o.blk.cell 0;simp only[zr,zc]at c0;have hHeld:=(⟨c0,ce⟩:_/\_);refine kO hK ?_;clear hK K;refine vW 12 rfl ?_;refine aV (by kernel_rfl) ?_ _;have HFin:=qd (show Below w.heap.size w w4 from ah.o.below (by intro k hk;simp at hk) (zb _));clear hHeld;go_wp2;go_roundw
   case rel=>exact⟨j+1,by omega,by go_num,HO.o,HFin.o⟩
   case measure=>simp[intOf];omega
  ·obtain rfl:j=n:=by omega
   have hlt':¬(j:Int)<(j:Int):=by omega
   have HZ:=qd (And.intro hO hB);have hnn:=HN.o;clear hO hB;go_wp2;go_ret;refine⟨A,vc,rfl, ?_,HZ.o.2⟩;have hz:=HZ.o.1;rw[show ids.take j=ids from by rw[hnn];exact yr]at hz;rw[<-hnn];exact hz
def rH (l:List Nat)(v:Nat):Option Nat:=l.findIdx? λx=>x==v
theorem XC {l:List Nat}{v j:Nat}(h:l[j]?=some v)(hn:v∉l.take j):rH l v=some j:=by
 obtain⟨hj,hv⟩:=zz.1 h;unfold rH;rw[xe];refine⟨hj,by simp[hv],λk hk=> ?_⟩
 have hkl:k<l.length:=by omega
 simp only[Bool.not_eq_true,xj];intro e;exact hn (List.mem_take_iff_getElem.2 ⟨k,by omega,e⟩)
theorem ac9 {l:List Nat}{v:Nat}(hn:v∉l):rH l v=none:=by
 unfold rH;rw[k7];intro x hx;simp only[xj];rintro rfl;exact hn hx
theorem Mx (A:Option Addr)(n c v:Nat)(l:List Nat)(hn:n<=1000)(base:Nat)(w:World)(h:w.ownsRow base 3 1 (.slice A n c) n (dK l)):
  Calls Tryz.prog 238 #[.slice A n c,nI v] w λe w'=>e= .returned (.int .i64 (uZ (rH l v)))/\w=w':=by
 have hl:l.length=n:=by simpa[dK]using h.1
 have HL:=qd hl;have HR:=qd h;clear hl h;go_in;go_wp2;go_loop [4,5,8] (λ_ _ i=>∃j:Nat,j<=n/\i= .int .i64 j/\v∉l.take j) (λ_ _ i=>n-(intOf i).toNat)
 case atStart=>exact⟨0,by omega,rfl,by simp⟩
 case round=>
  obtain⟨j,hj,rfl,hv⟩:=hrel;have hll:=HL.o;by_cases hlt:j<n
  ·have hlt':(j:Int)<(n:Int):=by omega
   have hj0:(0:Int)<=(j:Int):=by omega
   obtain⟨u,hu⟩:∃u,l[j]?=some u:=⟨_,zg (by omega)⟩;obtain⟨g,rfl,_,_,hc,_⟩:=nS HR.o hu;by_cases he:v=u
   ·subst he;have HE:=qd (XC hu hv);clear hv hu hll;go_wp2;go_ret;exact⟨by rw[HE.o];rfl,rfl⟩
   ·have he':¬(v:Int)=(u:Int):=by omega
    have HV:=qd (show v∉l.take (j+1)from by rw[r9 hu];simp only[Zs,zj,not_or];exact⟨hv,he⟩);clear hv hu hll he;go_wp2;go_round
    case rel=>exact⟨j+1,by omega,by go_num,HV.o⟩
    case measure=>simp[intOf];omega
  ·obtain rfl:j=n:=by omega
   have hlt':¬(j:Int)<(j:Int):=by omega
   have HE:=qd (ac9 (l:=l) (v:=v) (by rwa [<-hll,yr]at hv));clear hv hll;go_wp2;go_ret;exact⟨by rw[HE.o];rfl,rfl⟩
theorem PS (A:Option Addr)(n c v:Nat)(l:List Nat)(hn:n<=1000)(base:Nat)(w:World)(h:w.ownsRow base 3 1 (.slice A n c) n (dK l)):
  Calls Tryz.prog 250 #[.slice A n c,nI v] w λe w'=>e= .returned (.bool (rH l v).isSome)/\w=w':=by
 have HI:=qd (Mx A n c v l hn base w h);clear h;cases hx:rH l v
 case' none=>
  rw[hx]at HI;simp only[uZ]at HI
 case' some j=>
  rw[hx]at HI;simp only[uZ]at HI
  have hj:(0:Int)<=(j:Int):=by omega
 all_goals
  clear hx;go_in;go_wp2_with fail;refine(HI.o).mono ?_;rintro y w1 ⟨rfl,rfl⟩;go_wp2;go_ret;exact⟨rfl,rfl⟩
theorem XD (qb rb:Nat)(ring:List Nat)(first:Nat)(ids:List Nat)(id:Nat)(w:World)(h:gI w qb rb ring first ids):
  Calls Tryz.prog 234 #[qL qb,nI id] w λe w'=>e= .returned (.bool (rH ids id).isSome)/\Below w.heap.size w w':=by
 have hmn:=h.many;have fE:=qd (Cq qb rb ring first ids w h);unfold qL at fE|-;clear h;go_in;go_wp2_with fail;refine(fE.o).mono ?_;rintro y w1 ⟨A,c,rfl,hO,hb⟩;have HC:=qd (PS A ids.length c id ids (by omega) _ w1 hO);have HB:=qd hb;clear hO hb;go_wp2_with fail;refine(HC.o).mono ?_;rintro y w2 ⟨rfl,rfl⟩;go_wp2;go_ret;exact⟨rfl,HB.o⟩
theorem U8 (qb rb:Nat)(ring:List Nat)(first:Nat)(ids:List Nat)(id:Nat)(aeg:rH ids id=none)(hroom:ids.length<40)(w:World)(h:gI w qb rb ring first ids):
  Calls Tryz.prog 211 #[qL qb,nI id] w λe w'=>e= .returned .nilIface/\∃tQ,gI w' qb rb tQ first (ids++[id])/\Mod [qb,rb] w w':=by
 have aeh:=h.many;have hf:=h.El;have Gm:=qd (XD qb rb ring first ids id w h);rw[aeg]at Gm;simp only[jp]at Gm;obtain⟨n,hn⟩:∃n,n=ids.length:=⟨_,rfl⟩;have HN:=qd hn;have jH:=qd (λV hV=>Hg qb rb ring first ids n (by omega) V hV);obtain⟨q,hq⟩:∃q,q=(first+n) % 40:=⟨_,rfl⟩;have HQq:=qd hq;rw[<-hq]at jH
 have KN:q<40:=by omega
 have hq0:(0:Int)<=(q:Int):=by omega
 have hq1:(q:Int)<40:=by omega
 have aef:¬(n:Int)=40:=by omega
 have aii:¬n=40:=by omega
 have aij:n<=39:=by omega
 unfold qL at Gm jH|-;have hQw:=h.lt;clear hq hn hroom aeg;have HQ:=qd (h);have ah:=qd (Mod.refl [qb,rb] w);clear h;go_in;go_wp2_with fail;refine(Gm.o).mono ?_;rintro x w1 ⟨rfl,hb⟩;replace HQ:=qB hb HQ;have z1:=(hb).size;replace ah:=qT ah hb;clear hb Gm;have ce:=HQ.o.entry KN;have cf:=HQ.o.row.frozen q;have c0:=HQ.o.blk.cell 0;have c2:=HQ.o.blk.cell 2;have f2:=HQ.o.blk.frozen 2;simp only[gl]at c0 c2;rw[<-HN.o]at c2;obtain⟨u,hu⟩:∃u,u=ring.getD q 0:=⟨_,rfl⟩;rw[<-hu]at ce;clear hu;go_upto_region 3 with fail;refine rT (λ(w':World)=>w'.cell? ⟨qb,0,none⟩=some (.slice (some ⟨rb,0,none⟩) 40 40)/\w'.cell? ⟨qb,2,none⟩=some (nI n)) [] ?_;have hHeld:=(⟨c0,c2⟩:_/\_);refine vW 0 rfl ?_;refine vW 1 rfl ?_;refine vW 2 rfl ?_;refine vT 3 rfl ?_;refine vW 4 rfl ?_;refine vW 5 rfl ?_;refine vW 6 rfl ?_;refine vT 7 rfl ?_;refine vW 8 rfl ?_;refine vW 9 rfl ?_;refine vW 10 rfl ?_;refine aV (by kernel_rfl) ?_ _;refine aY (F:=λv=>Mod [] w1 v) (Mod.drewN [] w1 1) ?_;rintro w2 hm;clear ce cf c0 c2 f2;replace HQ:=qM hm HQ;have z2:=(hm).size;replace ah:=qU ah hm;clear hm;have ce:=HQ.o.entry KN;have cf:=HQ.o.row.frozen q;have c0:=HQ.o.blk.cell 0;have c2:=HQ.o.blk.cell 2;have f2:=HQ.o.blk.frozen 2;simp only[gl]at c0 c2;rw[<-HN.o]at c2;obtain⟨u,hu⟩:∃u,u=ring.getD q 0:=⟨_,rfl⟩;rw[<-hu]at ce;clear hu;go_upto_region 5 with fail;refine rT (λ(w':World)=>w'.cell? ⟨qb,0,none⟩=some (.slice (some ⟨rb,0,none⟩) 40 40)/\w'.cell? ⟨qb,2,none⟩=some (nI n)) [12] ?_;have hHeld:=(⟨c0,c2⟩:_/\_)
 refine vW 0 rfl ?_;refine vW 1 rfl ?_;refine vW 2 rfl ?_;refine vT 3 rfl ?_;refine vW 4 rfl ?_;refine vW 5 rfl ?_;refine vW 6 rfl ?_;refine vW 7 rfl ?_;refine vT 8 rfl ?_;refine vW 10 rfl ?_;refine nT 9 rfl λK hK=> ?_;go_simp;refine(jH.o _ (HQ.o.mod (Mod.drewN [] w2 1) (by simp) (by simp))).mono ?_;rintro y w3 ⟨rfl,hw3⟩;have hm:Mod [] w2 w3:=hw3▸Mod.drewN [] w2 2;clear hw3 ce cf c0 c2 f2;replace HQ:=qM hm HQ;have z3:=(hm).size;replace ah:=qU ah hm;clear hm;have ce:=HQ.o.entry KN;have cf:=HQ.o.row.frozen q;have c0:=HQ.o.blk.cell 0;have c2:=HQ.o.blk.cell 2;have f2:=HQ.o.blk.frozen 2;simp only[gl]at c0 c2;rw[<-HN.o]at c2;obtain⟨u,hu⟩:∃u,u=ring.getD q 0:=⟨_,rfl⟩;rw[<-hu]at ce;clear hu;go_wp2_with fail;have hHeld:=(⟨c0,c2⟩:_/\_);refine kO hK ?_;clear hK K;refine vW 11 rfl ?_;refine nT 12 rfl λK hK=> ?_;go_simp;refine kO hK ?_;clear hK K;refine aV (by kernel_rfl) ?_ _;have hB:=HQ.o.blk;have hR:=HQ.o.row;have hRs:=hR.ak q (nI id);rw[yY]at hRs;have Sy:=hB.far (p:=⟨rb,q,none⟩) HQ.o.ne (nI id);have hmm:=(Mod.refl [rb] w3).sl q (nI id);have HQo:=qd HQ.o;refine aY (F:=λv=>(aj v qb 218 #[.slice (some ⟨rb,0,none⟩) 40 40,nI first,nI n]/\aj v rb 3 (intCells (ring.set q id)))/\Mod [rb] w3 v) ⟨⟨by rw[HN.o];exact Sy,hRs⟩,hmm⟩ ?_;clear hB hR hRs Sy hmm ce cf c0 c2 f2 HQ;rintro w4 ⟨⟨hB,hR⟩,hm⟩;replace ah:=qd (ah.o.then (hm.more (by simp)));clear hm;have HB:=qd (hB);have HR:=qd (hR);clear hB hR;have bc:=HB.o.c3;have bf:=HB.o.f3
 go_upto_region 7 with fail;have hqr:=HQo.o.ne;have q4:=qJ HB.o.lt HR.o.lt;refine I5 HB.o ?_;rintro w5 ⟨hnew,hm⟩;simp only[pt]at hnew;replace HR:=qM hm HR;have z6:=(hm).size;replace ah:=qU ah hm;replace HB:=qd hnew;clear hnew hm
 have HFin:=qd (show gI w5 qb rb (ring.set q id) first (ids++[id])from by
  have h0:=HQo.o;have hnn:=HN.o;have hqq:=HQq.o;refine⟨?_,HR.o,by rw[qq];exact h0.len,h0.El,by rw[ZD];simp;omega,λi hi=> ?_,h0.ne⟩
  ·have hb:=HB.o;rw[ZD,xl,<-hnn];exact hb
  ·rw[ZD,xl]at hi;rw[zv,qr,zv (l:=ids++[id])];by_cases hin:i<ids.length
   ·rw[if_neg (by omega),Z2 hin,<-zv,<-zv];exact h0.at_ i hin
   ·have hi2:i=ids.length:=by omega
    have hlr:=h0.len;rw[if_pos (by rw[hqq,hnn,hi2]),if_pos (by omega),Z1 (by omega),hi2]
    simp)
 go_wp2;go_ret
 first|exact⟨rfl,⟨_,HFin.o⟩,ah.o⟩|exact⟨rfl,_,HFin.o,ah.o⟩
