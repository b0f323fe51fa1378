/- A dual's Step by its contract, while its tables are built. -/
import Derived.Test.YtkddpchpcepjgaaGreatDoorCoAO
namespace Go.Proofs.YtkddpchpcepjgaaGreatDoor
set_option maxRecDepth 100000
set_option maxHeartbeats 8000000
open Go.RowKit cu
theorem vl:type_of% @Nat.add_one_mul:=@Nat.add_one_mul
section
theorem Pk {n k j:Nat}(h:(j+1)*n<=k):qK n k j=n:=by
 have:=vl j n;unfold qK;omega
theorem aaH {n k j:Nat}(h:k<(j+1)*n)(h2:j*n<=k):qK n k j=k-j*n/\k-j*n<n:=by
 have:=vl j n;unfold qK;omega
theorem aaI {n k j:Nat}(h:k<(j+1)*n)(h2:j*n<=k)(i:Nat):qK n (k+1) i=if i=j then qK n k j+1 else qK n k i:=by
 have h3:=vl j n;by_cases hij:i=j
 ·subst hij;rw[if_pos rfl];unfold qK;omega
 ·rw[if_neg hij];unfold qK;rcases Kd i j with hlt|hge
  ·have h4:=xt n (show i+1<=j from hlt);have h5:=vl i n;omega
  ·have h4:=xt n (show j+1<=i by omega);omega
section
variable {w w' : World} {db rb cap ob og : Nat} {bl : List (Nat × Nat × Nat)} {T : aC} {n depth k j mb : Nat}
theorem afF {b c:Nat×Nat×Nat}(hnd:(bL db rb ob og bl).Nodup){i:Nat}(hc:bl[i]?=some c)(hb:bl[j]?=some b)(hne:i≠j):∀q∈bF c,q∉bF b:=by
 unfold bL at hnd;simp only[qa]at hnd;exact Cm (f:=bF) hnd.2.2.2.2 hc hb hne
theorem wG.stepped (h:wG w db rb cap ob og bl T n depth k){b:Nat×Nat×Nat}(hb:bl[j]?=some b)(hk1:k<(j+1)*n)(hk2:j*n<=k)(hB:gB w' b.1 b.2.1 b.2.2 n (qK n k j+1))(hm:Mod [mb,b.1,b.2.1,b.2.2] w w')(hmb:mb∉bL db rb ob og bl):
  aj w' db 284 #[pQ ob,nI depth,.slice (some ⟨rb,0,none⟩) bl.length cap,.slice none 0 0,.pointer none,.bool false]/\fO w' rb (bl.map λb=>b.1)/\TabAt w' ob og T/\∀(i:Nat) (c:Nat×Nat×Nat),bl[i]?=some c->gB w' c.1 c.2.1 c.2.2 n (qK n (k+1) i):=by
 have hnd:=h.nd;unfold bL at hnd;simp only[qa,zt,not_or]at hnd;obtain⟨⟨d1,d2,d3,d4⟩,⟨r1,r2,r3⟩,⟨o1,o2⟩,g1,hn⟩:=hnd;have pX:=zE hb;have hin:∀q∈bF b,q∈bl.flatMap λb=> [b.1,b.2.1,b.2.2]:=λq hq=>jz.2 ⟨b,pX,hq⟩
 have hS:∀q,q≠mb->q∉(bl.flatMap λb=> [b.1,b.2.1,b.2.2])->q∉[mb,b.1,b.2.1,b.2.2]:=λq h1 h2 h3=>by
  rcases zt.1 h3 with e|e
  ·exact h1 e
  ·exact h2 (hin q e)
 have hne:∀q∈bL db rb ob og bl,q≠mb:=λq hq e=>hmb (e▸hq);refine⟨h.blk.mod hm (hS _ (hne _ (by simp[bL])) d4),h.row.mod hm (hS _ (hne _ (by simp[bL])) r3),h.tab.mod hm (hS _ (hne _ (by simp[bL])) o2) (hS _ (hne _ (by simp[bL])) g1),λi c hc=> ?_⟩;rw[aaI hk1 hk2];by_cases hij:i=j
 ·subst hij;rw[hb]at hc;cases hc;rw[if_pos rfl];exact hB
 ·rw[if_neg hij];have ha:=afF h.nd hc hb hij;obtain⟨m1,m2,m3⟩:=wH (db:=db) (rb:=rb) (ob:=ob) (og:=og) (zE hc)
  have hz:∀q∈bF c,q≠mb->q∉[mb,b.1,b.2.1,b.2.2]:=λq h1 h2 h3=>by
   rcases zt.1 h3 with e|e
   ·exact h2 e
   ·exact ha q h1 e
  exact(h.pq i c hc).mod hm (hz _ (by simp[bF]) (hne _ m1)) (hz _ (by simp[bF]) (hne _ m2)) (hz _ (by simp[bF]) (hne _ m3))
end
theorem NC {W0:World}{E:Nat->Addr}(db rb cap ob og:Nat)(bl:List (Nat×Nat×Nat))(T:aC)(n depth k:Nat)(P:MP)(x:bS)(w:World)(h:wG w db rb cap ob og bl T n depth k)
  (hM:aN w P x) (hE:Env W0 E w) (hmF:P.mb∉bL db rb ob og bl) (hb0:W0.heap.size<=P.mb) (hbF:∀q∈bL db rb ob og bl,W0.heap.size<=q):
  Calls Tryz.prog 277 #[bQ db,.pointer (some ⟨P.mb,P.mo,none⟩)] w λe w'=>e= .returned (.bool true)/\aN w' P ((x.add cV 1).add (cU 1) 1)/\Mod (P.mb::bL db rb ob og bl) w w'/\(if k+1=n*bl.length then∃fb cB eb vb dw,pY w' db rb cap ob og fb cB eb vb dw (bl.map λb=>b.1) (iT bl) T (List.replicate bl.length (eB n n)) n depth 0/\w.heap.size<=fb/\w.heap.size<=eb/\w.heap.size<=vb else wG w' db rb cap ob og bl T n depth (k+1)):=by
 have hml:=hM.lt;have HH:=qd h;have hle:=h.pow.le;have hpos:=h.pow.pos;have ah6:=h.lt;obtain⟨n1,n2⟩:=h.many;have bc2:=h.blk.cell 2;have bc3:=h.blk.cell 3;simp only[gl]at bc2 bc3;have jT:=qd (xq db w bc3);have HM:=qd hM;have HE:=qd hE;unfold bQ at jT|-;clear h hM hE;go_in;go_wp2_with fail;refine(jT.o).mono ?_;rintro y w1 ⟨rfl,rfl⟩;go_wp2;clear bc2 bc3 jT;go_loopw [4,5,6,20] (λ_ _ _ i wr=>∃j:Nat,j<=bl.length/\i= .int .i64 j/\j*n<=k/\Below w.heap.size w wr) (λ_ _ _ i _=>bl.length-(intOf i).toNat)
 case atStart=>exact⟨0,by omega,rfl,by omega,Below.refl _ _⟩
 case round=>
  obtain⟨j,hj,rfl,hjk,hb⟩:=hrel;by_cases hlt:j<bl.length
  ·have hlt':(j:Int)<(bl.length:Int):=by omega
   have hj0:(0:Int)<=(j:Int):=by omega
   obtain⟨b,hbi⟩:∃b,bl[j]?=some b:=⟨_,zg hlt⟩;have pX:=zE hbi;have hD:=HH.o.mod (Mod.of_below hb []) (by simp);have hrw:=hD.row.at_ j b.1 (by rw[Q3,hbi];rfl);have Pm:=hD.pq j b hbi;by_cases hfull:(j+1)*n<=k
   ·rw[Pk hfull]at Pm;have HC:=qd (Nu b.1 b.2.1 b.2.2 n (.pointer (some ⟨P.mb,P.mo,none⟩)) wr Pm);have HB:=qd hb;unfold mV at HC;clear hbi hD Pm hb;go_wp2_with fail;refine(HC.o).mono ?_;rintro y w2 ⟨rfl,hb2⟩;have HB2:=qd (HB.o.trans (hb2.mono HB.o.size));clear hb2;go_wp2;go_roundw
    case rel=>exact⟨j+1,by omega,by go_num,hfull,HB2.o⟩
    case measure=>simp[intOf];omega
   ·have hpart:k<(j+1)*n:=by omega
    obtain⟨hko,hkn⟩:=aaH hpart hjk;have hmul:=vl j n;have hbf:=hbF;have p9:=hmF;obtain⟨q1,q2,q3⟩:=wH (db:=db) (rb:=rb) (ob:=ob) (og:=og) pX;have hne:∀q∈bL db rb ob og bl,P.mb≠q:=λq hq e=>p9 (e▸hq);have HC:=qd (UO (W0:=W0) (E:=E) b.1 b.2.1 b.2.2 n (qK n k j) P x (by omega) wr Pm (HM.o.below hb) (HE.o.next hb) (hne _ q1) (hne _ q2) (hne _ q3) hb0 (hbf _ q1) (hbf _ q2) (hbf _ q3));have HD:=qd hD;have HB:=qd hb;have Gg:=qd hbi;unfold mV at HC;clear hbi hD Pm hb;go_wp2_with fail;refine(HC.o).mono ?_;rintro y w2 ⟨rfl,hB2,hM2,hm⟩;have hpc:=HD.o.stepped Gg.o hpart hjk hB2 hm p9;have Bp:=qd hpc;have Di:=qd hM2;have HB2:=qd hB2;have hmt:Mod (P.mb::bL db rb ob og bl) w w2:=(Mod.of_below HB.o _).then (hm.more (by intro q hq;simp only[zt,Q1,XS]at hq|-;rcases hq with rfl|rfl|rfl|rfl;exact .inl rfl;exact .inr q1;exact .inr q2;exact .inr q3));have ow:=qd hmt;have bc2:=hpc.1.cell 2;simp only[gl]at bc2;have hnl:n*bl.length=bl.length*n:=vr _ _;clear hpc hmt hM2 hm hB2;by_cases hlast:j+1=bl.length
    ·have hjl:(j:Int)=(bl.length:Int)-1:=by omega
     have hlm:bl.length*n=(j+1)*n:=by rw[hlast]
     have jQ:=qd (tJ b.1 n (qK n k j+1) _ w2 HB2.o.le hle HB2.o.blk);unfold mV at jQ;obtain⟨dl,hdl⟩:∃dl,dl=n-(qK n k j+1):=⟨_,rfl⟩;rw[<-hdl]at jQ;by_cases hall:k+1=n*bl.length
     ·have hd0:dl=0:=by omega
      have hbg:∀(i:Nat) (q:Nat×Nat×Nat),bl[i]?=some q->gB w2 q.1 q.2.1 q.2.2 n n:=λi q hq=>by
       have hi:=(zz.1 hq).1;have h1:=Bp.o.2.2.2 i q hq;have h2:=xt n (show i+1<=bl.length by omega)
       rwa [Pk (by omega)]at h1
      have hBg:yT w2 bl n 0:=⟨λi q hq _=>hbg i q hq,λi q _ hi=>by omega,λi q hq=>(hbg i q hq).tab⟩;have oD:=qd (λV (hV:Mod [] w2 V)=>U0 db rb cap ob og bl T n depth ⟨n1,n2⟩ HH.o.deep HH.o.pow HH.o.nd V (Bp.o.1.mod hV (by simp)) (Bp.o.2.1.mod hV (by simp)) (Bp.o.2.2.1.mod hV (by simp) (by simp)) (hBg.mod hV (by simp)));unfold bQ at oD;rw[hd0]at jQ;clear hbg hBg hdl hd0;go_wp2_with fail;refine(jQ.o).mono ?_;rintro y w3 ⟨rfl,hw3⟩;have gQ:Mod [] w2 w3:=hw3▸Mod.drewN [] w2 1;have HB3:=qd (oD.o w3 gQ);have OE:=qd (Di.o.mod gQ (by simp));have agf:=qd (ow.o.then (gQ.more (by simp)));have kS:=qd gQ.size;have Xw:=qd ow.o.size;clear hw3 gQ;go_wp2_with fail;refine(HB3.o).mono ?_;rintro y w4 ⟨rfl,fb,cB,eb,vb,hrest⟩;have jU:=qd hrest;clear hrest;go_wp2;go_ret;obtain⟨dw,Xv,nO,Ee,hvb,dO⟩:=jU.o;have hs3:=kS.o;have hs4:=Xw.o;refine⟨rfl,OE.o.mod dO p9,agf.o.then (dO.more (λq hq=>qu _ hq)), ?_⟩
      try rw[if_pos hall]
      exact⟨fb,cB,eb,vb,by first|exact⟨dw,Xv,by omega,by omega,by omega⟩|exact⟨⟨dw,Xv⟩,by omega,by omega,by omega⟩⟩
     ·have hd0:¬(dl:Int)=0:=by omega
      have hd1:¬dl=0:=by omega
      clear hdl;go_wp2_with fail;refine(jQ.o).mono ?_;rintro y w3 ⟨rfl,hw3⟩;have HW3:=qd (show Mod [] w2 w3 from hw3▸Mod.drewN [] w2 1);clear hw3;go_wp2;go_ret;refine⟨rfl,Di.o.mod HW3.o (by simp),ow.o.then (HW3.o.more (by simp)), ?_⟩
      try rw[if_neg hall]
      exact⟨Bp.o.1.mod HW3.o (by simp),Bp.o.2.1.mod HW3.o (by simp),λi q hq=>(Bp.o.2.2.2 i q hq).mod HW3.o (by simp) (by simp) (by simp),Bp.o.2.2.1.mod HW3.o (by simp) (by simp),HH.o.pow,HH.o.many,by omega,HH.o.deep,HH.o.nd⟩
    ·have hjl:¬(j:Int)=(bl.length:Int)-1:=by omega
     have h2:=xt n (show j+1+1<=bl.length by omega);have h3:=vl (j+1) n
     have hall:¬k+1=n*bl.length:=by omega
     go_wp2;go_ret;refine⟨rfl,Di.o,ow.o, ?_⟩
     try rw[if_neg hall]
     exact⟨Bp.o.1,Bp.o.2.1,Bp.o.2.2.2,Bp.o.2.2.1,HH.o.pow,HH.o.many,by omega,HH.o.deep,HH.o.nd⟩
  ·exfalso
   obtain rfl:j=bl.length:=by omega
   have:=vr bl.length n;omega
end
section
variable {w w' wr : World} {base db depth g n ob og : Nat} {e t : TypeId} {cs : Array Value} {v : Value} {xs : List Value} {T : aC} {bl : List (Nat × Nat × Nat)}
theorem Xx:(Tryz.prog.info? 285).map (λi=>(i.zero,i.size,i.bytes))=some (some (.pointer none),1,8):=by kernel_rfl
theorem L9:sZ Tryz.prog 280 285 1 8:=BO Tryz.underlying280 Xx rfl (by decide) (by decide)
structure G9 (w wr:World)(db ob og:Nat)(T:aC)(n depth:Nat)(bl:List (Nat×Nat×Nat))(v:Value):Prop where
 blk:aj wr db 284 #[pQ ob,.int .i64 (depth:Int),v,.slice none 0 0,.pointer none,.bool false]
 own:wr.ownsRow w.heap.size 285 1 v bl.length (ptrs (bl.map λb=>b.1))
 pq:∀(i:Nat) (b:Nat×Nat×Nat),bl[i]?=some b->gB wr b.1 b.2.1 b.2.2 n 0
 tab:TabAt wr ob og T
 nd:(db::bl.flatMap bF).Nodup
 low:∀q∈db::bl.flatMap bF,w.heap.size<=q/\q<wr.heap.size
 old:ob<w.heap.size/\og<w.heap.size
 below:Below w.heap.size w wr
theorem yU {t':TypeId}{cs':Array Value}{z:Nat×Nat}(h:aj w g t cs)(h':w.heap[g]?=some (.cells cs' t' z)):t=t':=by
 have h0:w.heap[g]?=_:=h;rw[h0]at h';cases h';rfl
def Jv (w w':World)(db ob og:Nat)(T:aC)(n m depth:Nat):Prop:=
 ∃rb cap bl,w.heap.size<=db/\w.heap.size<=rb/\(∀q∈bl.flatMap bF,w.heap.size<=q)/\bl.length=m/\wG w' db rb cap ob og bl T n depth 0
theorem SY (h:w.ownsRow base e 1 v n xs)(hB:aj w g t cs)(ht:t≠e):some g≠v.ownBlock:=by
 rcases h.2 with⟨rfl,_⟩|⟨q,c,cur,rfl,_,hg,_⟩
 ·simp[Value.ownBlock]
 ·intro hq;simp[Value.ownBlock]at hq;subst hq;exact ht (yU hB hg)
theorem qh (h:w.ownsRow base e 1 v n xs)(hg:w.grownBy w' v.ownBlock)(hB:aj w g t cs)(ht:t≠e):aj w' g t cs:=
 (hg.block g hB.lt (SY h hB ht)).trans hB
theorem kG {S:List Nat}(h:w.ownsRow base e 1 v n xs)(hm:Mod S w w')(hS:∀k,v.ownBlock=some k->k∉S):w'.ownsRow base e 1 v n xs:=by
 refine⟨h.1, ?_⟩;rcases h.2 with hn|⟨g,cap,cur,hv,hb,hg,rest⟩
 ·exact .inl hn
 ·exact .inr ⟨g,cap,cur,hv,hb,(hm.block g (qi.1 hg).1 (hS g (by rw[hv];rfl))).trans hg,rest⟩
theorem G9.next {w2 w4:World}{bb tb gb:Nat}{l:Nat}{v4:Value}(h:G9 w wr db ob og T n depth bl v)(hl:bl.length+1=l)(hb:Below wr.heap.size wr w2)(hB:gB w2 bb tb gb n 0)(h1:wr.heap.size<=bb)(h2:wr.heap.size<=tb)(h3:wr.heap.size<=gb)(hown:w4.ownsRow w.heap.size 285 1 v4 l (ptrs (bl.map λb=>b.1)++[pQ bb]))(hg:o9 w2 w.heap.size v w4 v4):G9 w (w4.setCell ⟨db,2,none⟩ v4) db ob og T n depth (bl++[(bb,tb,gb)]) v4:=by
 subst hl;have hO2:=own_below h.own hb (zb _);have hD2:=h.blk.mod (Mod.of_below hb []) (by simp);have hD4:=qh hO2 hg.lH hD2 (by decide)
 have hK:∀q1 q2 q3 k,gB w2 q1 q2 q3 n k->gB w4 q1 q2 q3 n k:=λq1 q2 q3 k hq=>
  ⟨qh hO2 hg.lH hq.blk (by decide),⟨hq.tab.wide,qh hO2 hg.lH hq.tab.tab (by decide),qh hO2 hg.lH hq.tab.Ji (by decide),hq.tab.ne⟩,hq.le,hq.pow,hq.ne1,hq.Xb⟩
 have hm:Mod [db] w4 (w4.setCell ⟨db,2,none⟩ v4):=(Mod.refl [db] w4).sl 2 v4;have hlow:=h.low;have hsz:=hb.size;have agh:=hg.size;have hwl:=h.below.size;have hnd:=qa.1 h.nd;have hBl:=hB.lt;have hBt:=hB.aS;have hBg:=hB.aT;have hdl:=hlow db (by simp)
 have hf:(bl++[(bb,tb,gb)]).flatMap bF=bl.flatMap bF++[bb,tb,gb]:=by simp[bF]
 have hq:∀q∈bl.flatMap bF,q≠db:=λq hq e=>hnd.1 (e▸hq);have hbq:∀q1 q2 q3 k,gB w4 q1 q2 q3 n k->q1≠db->q2≠db->q3≠db->gB (w4.setCell ⟨db,2,none⟩ v4) q1 q2 q3 n k:=λq1 q2 q3 k hh a1 a2 a3=>hh.mod hm (by simpa using a1) (by simpa using a2) (by simpa using a3);refine⟨by simpa using hD4.ak 2 v4, ?_,λi b hi=> ?_, ?_, ?_,λq hq2=> ?_,h.old, ?_⟩
 ·have hp:ptrs ((bl++[(bb,tb,gb)]).map λb=>b.1)=ptrs (bl.map λb=>b.1)++[pQ bb]:=by simp[ptrs]
  rw[hp,ZD];refine kG hown hm λk hk=> ?_;simp only[zj];rintro rfl;exact SY hown hD4 (by decide) hk.symm
 ·by_cases hlt:i<bl.length
  ·rw[Z2 hlt]at hi;have pX:=zE hi;have hin:∀q∈bF b,q∈bl.flatMap bF:=λq hq=>jz.2 ⟨b,pX,hq⟩;exact hbq _ _ _ _ (hK _ _ _ _ ((h.pq i b hi).mod (Mod.of_below hb []) (by simp) (by simp) (by simp))) (hq _ (hin _ (by simp[bF]))) (hq _ (hin _ (by simp[bF]))) (hq _ (hin _ (by simp[bF])))
  ·rw[Z1 (by omega)]at hi
   have h0:i-bl.length=0:=by
    rcases kj (i-bl.length)with e|e
    ·exact e
    ·rw[yo (by simp;omega)]at hi;cases hi
   rw[h0]at hi;simp at hi;subst hi;exact hbq bb tb gb 0 (hK bb tb gb 0 hB) (by omega) (by omega) (by omega)
 ·have kR:=h.tab.below hb;have ho:=h.old;exact⟨kR.wide,(qh hO2 hg.lH kR.tab (by decide)).mod hm (by simp;omega),(qh hO2 hg.lH kR.Ji (by decide)).mod hm (by simp;omega),kR.ne⟩
 ·rw[hf,<-yb,yq];refine⟨h.nd, ?_,λa ha b hb2=> ?_⟩
  ·have:=hB.ne1;have:=hB.Xb;have:=hB.tab.ne;simp;omega
  ·have:=hlow a ha;simp at hb2;omega
 ·rw[hf,<-yb,Zs]at hq2
  have hs:(w4.setCell ⟨db,2,none⟩ v4).heap.size=w4.heap.size:=by simp
  rcases hq2 with hq2|hq2
  ·have:=hlow q hq2;omega
  ·simp at hq2;omega
 ·have hb4:Below w.heap.size w w4:=(h.below.trans (hb.mono hwl)).trans hg.below;exact hb4.trans (hm.below (by intro k hk;simp at hk;omega) hb4.size)
theorem G9.done (h:G9 w wr db ob og T n depth bl v)(hn:Pw n)(hm:1<=bl.length/\bl.length<=2)(hd:depth<=15):
  ∃rb cap,wG wr db rb cap ob og bl T n depth 0/\w.heap.size<=rb:=by
 obtain⟨A,cap,rfl⟩:=bq h.own;obtain⟨rb,rfl,hrb,hrow,_⟩:=fO.jy h.own (by omega)
 obtain⟨g,cap',cur,hv,_,hg,_⟩:∃g cap' cur,(Value.slice (some ⟨rb,0,none⟩) bl.length cap)= .slice (some ⟨g,0,none⟩) bl.length cap'/\w.heap.size<=g/\wr.heap[g]?=some (.cells cur 285 (0,0))/\True:=by
  rcases h.own.2 with⟨he,_⟩|⟨g,c,cur,hv,hb,hg,_⟩
  ·cases he
  ·exact⟨g,c,cur,hv,hb,hg,trivial⟩
 cases hv;have hpos:=hn.pos;have hnd:=qa.1 h.nd;have hl0:=h.low db (by simp)
 have hrq:∀q∈bl.flatMap bF,rb≠q:=λq hq e=>by
  subst e;obtain⟨b,hb,Bo⟩:=jz.1 hq;obtain⟨i,hi⟩:=qs hb;have hB:=h.pq i b hi;simp only[bF,zt,Q1,XS]at Bo;rcases Bo with rfl|rfl|rfl
  ·exact absurd (yU hB.blk hg) (by decide)
  ·exact absurd (yU hB.tab.tab hg) (by decide)
  ·exact absurd (yU hB.tab.Ji hg) (by decide)
 have hrd:rb≠db:=λe=>by subst e;exact absurd (yU h.blk hg) (by decide)
 have hold:=h.old
 have hoq:∀q,q<w.heap.size->q∉bl.flatMap bF:=λq hq hm=>by
  have:=(h.low q (qu _ hm)).1;omega
 have hne:=h.tab.ne;refine⟨rb,cap,⟨h.blk,hrow,λi b hb=> ?_,h.tab,hn,hm,Nat.mul_pos hpos (by omega),hd, ?_⟩,hrb⟩
 ·have:qK n 0 i=0:=by unfold qK;omega
  rw[this];exact h.pq i b hb
 ·unfold bL;show(db::rb::ob::og::bl.flatMap bF).Nodup;simp only[qa,zt,not_or];exact⟨⟨by omega,by omega,by omega,hnd.1⟩,⟨by omega,by omega,λhq=>hrq rb hq rfl⟩,⟨hne,hoq _ hold.1⟩,hoq _ hold.2,hnd.2⟩
theorem aaJ (ob og n m depth:Nat)(dep:Int)(T:aC)(hn:Pw n)(hcase:m=1/\dep= -1/\depth=0\/m=2/\dep=(depth:Int)/\depth<=15)(w:World)(h:TabAt w ob og T):
  Calls Tryz.prog 169 #[pQ ob,.int .i64 (n:Int),.int .i64 dep] w λe w'=>∃db,e= .returned (.tuple #[bQ db,.nilIface])/\Jv w w' db ob og T n m depth/\Below w.heap.size w w':=by
 have htl:=h.aS;have hgl:=h.aT
 have U1:¬dep>15:=by omega
 have Pn:=qd (λV:World=>Xc n hn V);unfold mV at Pn;unfold bQ;have Po:=qd h
 have hdd:(if dep<0 then 0 else dep)=(depth:Int):=by split<;>omega
 have hdm:max dep 0=(depth:Int):=by omega
 clear h;go_in;go_upto_region 6 with fail;refine aY (F:=λv=>G9 w v w.heap.size ob og T n depth [] (.slice none 0 0)) ⟨by first|(rw[<-hdd];exact aj.new w _ _)|(rw[<-hdm];exact aj.new w _ _),World.ownsRow_nil _ _ _ _,λi b hb=>by simp at hb,Po.o.below ((Below.refl _ _).alloc (zb _) _),by simp,by simp,⟨htl,hgl⟩,(Below.refl _ _).alloc (zb _) _⟩ ?_;rintro w1 hN0;obtain⟨db,hdb⟩:∃db,db=w.heap.size:=⟨_,rfl⟩;rw[<-hdb]at hN0|-
 replace hdb:w.heap.size<=db:=by omega
 have HN0:=qd hN0;clear hN0;go_wp2;go_loopw [6,7,9,10,11] (λ_ _ i _ _ wr=>∃(j:Nat) (bl:List (Nat×Nat×Nat)) (v:Value),j<=m/\i= .int .i64 j/\bl.length=j/\G9 w wr db ob og T n depth bl v) (λ_ _ i _ _ _=>m-(intOf i).toNat)
 case atStart=>exact⟨0,[],_,by omega,rfl,rfl,HN0.o⟩
 case round=>
  obtain⟨j,bl,v,hj,rfl,hbl,hN⟩:=hrel
  have hm2:m<=2:=by omega
  by_cases hlt:j<m
  ·have HN:=qd hN;have hwl:=hN.below.size;clear hN
   have hcond:j=0\/(j=1/\0<=dep):=by omega
   have HB1:=qd (Pn.o wr);rcases hcond with rfl|⟨rfl,hdp⟩
   ·go_wp2_with fail;refine(HB1.o).mono ?_;rintro y w2 ⟨bb,tb,gb,hbb,htb,hgb,rfl,hB,hb⟩;have hb2:Below w.heap.size w w2:=HN.o.below.trans (hb.mono hwl);have hdl:db<wr.heap.size:=(HN.o.low db (by simp)).2;have hD2:=HN.o.blk.mod (Mod.of_below hb []) (by simp);have hO2:=own_below HN.o.own hb (zb _);have dc2:=hD2.cell 2;simp only[gl]at dc2;have df2:=hD2.frozen 2;have aea:=hb.size
    have agi:db<w2.heap.size:=by omega
    have HD2:=qd hD2;have HB2:=qd hB;have uQ:=qd hO2;have Hb:=qd hb;have Hb2:=qd hb2;clear hD2 hB hO2 hb hb2;go_wp2_with (at_builtin;refine gD rfl rfl L9 uQ.o rfl rfl (by simp) rfl rfl (by omega) (by omega) ?_;intro v4 w4 dM hg4;rw[hbl]at dM;have lJ:=qd (HN.o.next (by rw[hbl]) Hb.o HB2.o hbb htb hgb dM hg4);have hD4:=qh uQ.o hg4.lH HD2.o (by decide);have dc4:=hD4.cell 2;have df4:=hD4.frozen 2;obtain⟨A4,c4,rfl⟩:=bq dM;simp only[gl]at dc4;clear hD4 dM hg4);go_roundw
    case rel=>exact⟨0+1,bl++[(bb,tb,gb)],_,by omega,by go_num,by simp[hbl],lJ.o⟩
    case measure=>simp[intOf];omega
   ·go_wp2_with fail;refine(HB1.o).mono ?_;rintro y w2 ⟨bb,tb,gb,hbb,htb,hgb,rfl,hB,hb⟩;have hb2:Below w.heap.size w w2:=HN.o.below.trans (hb.mono hwl);have hdl:db<wr.heap.size:=(HN.o.low db (by simp)).2;have hD2:=HN.o.blk.mod (Mod.of_below hb []) (by simp);have hO2:=own_below HN.o.own hb (zb _);have dc2:=hD2.cell 2;simp only[gl]at dc2;have df2:=hD2.frozen 2;have aea:=hb.size
    have agi:db<w2.heap.size:=by omega
    have HD2:=qd hD2;have HB2:=qd hB;have uQ:=qd hO2;have Hb:=qd hb;have Hb2:=qd hb2;clear hD2 hB hO2 hb hb2;go_wp2_with (at_builtin;refine gD rfl rfl L9 uQ.o rfl rfl (by simp) rfl rfl (by omega) (by omega) ?_;intro v4 w4 dM hg4;rw[hbl]at dM;have lJ:=qd (HN.o.next (by rw[hbl]) Hb.o HB2.o hbb htb hgb dM hg4);have hD4:=qh uQ.o hg4.lH HD2.o (by decide);have dc4:=hD4.cell 2;have df4:=hD4.frozen 2;obtain⟨A4,c4,rfl⟩:=bq dM;simp only[gl]at dc4;clear hD4 dM hg4);go_roundw
    case rel=>exact⟨1+1,bl++[(bb,tb,gb)],_,by omega,by go_num,by simp[hbl],lJ.o⟩
    case measure=>simp[intOf];omega
  ·obtain rfl:j=m:=by omega
   obtain⟨rb,cap,hDu,hrb⟩:=hN.done hn (by omega) (by omega);have Gi:=qd hDu;have HN:=qd hN;clear hDu hN
   have hc0:¬(j:Int)=0:=by omega
   have hc1:(j:Int)=1->¬0<=dep:=by omega
   rcases hcase with⟨rfl,rfl,rfl⟩|⟨rfl,rfl,ah7⟩
   focus
    skip
   rotate_left
   focus
    skip
   all_goals
    go_wp2;refine bodyPost_ret (v:= .tuple #[pQ db,.nilIface]) (by simp[results,Tryz.results169,go_sem]) rfl ?_;have hlow:=HN.o.low;exact⟨db,rfl,⟨rb,cap,bl,hdb,hrb,λq hq=>(hlow q (qu _ hq)).1,hbl,Gi.o⟩,HN.o.below⟩
theorem Ma (db rb cap ob og fb cB eb vb dw:Nat)(bC:List Nat)(bs:List (Nat×Nat))(T:aC)(Ts:List aC)(n depth next:Nat)(w:World)(h:pY w db rb cap ob og fb cB eb vb dw bC bs T Ts n depth next)(tN:T.gs.length<=64)(hnx:next=T.gs.length):
  Calls Tryz.prog 219 #[bQ db] w λe w'=>∃wO c',e= .returned (.tuple #[.slice (some ⟨wO,0,none⟩) bs.length c',.nilIface])/\fO w' wO (bs.map Prod.fst)/\w.heap.size<=wO/\iR w' bs Ts/\Mod [db] w w':=by
 have hnd:=h.nd;unfold aW at hnd;simp only[qa,zt,not_or,Zs]at hnd;obtain⟨⟨d1,d2,d3,d4,d5,d6,d7,d8⟩,_⟩:=hnd;obtain⟨n1,n2⟩:=h.many
 have hbs:∀b∈bs,b.1∉[db]/\b.2∉[db]:=λb hb=>by
  simp only[zj];exact⟨λe=>d8 (e▸dV.2 ⟨b,hb,.inl rfl⟩),λe=>d8 (e▸dV.2 ⟨b,hb,.inr rfl⟩)⟩
 have HL:=qd (rD db rb cap ob og fb cB eb vb dw bC bs T Ts n depth next w h tN (by omega))
 have hz:T.gs.length-next=0:=by omega
 rw[hz]at HL;unfold bQ at HL|-;have hfl:(bs.map Prod.fst).length=bs.length:=qS ..;have HD:=qd (h.blk);have HF:=qd (h.fresh);have dR:=qd (h.tabs);have ah:=qd (Mod.refl [db] w);clear h hz;go_in;go_wp2_with fail;refine(HL.o).mono ?_;rintro y w1 ⟨rfl,hw1⟩;have hm:Mod [] w w1:=hw1▸Mod.drewN [] w 1;clear hw1 HL;replace HD:=qM hm HD;replace HF:=qM hm HF;replace dR:=qd (dR.o.mod hm (by simp));replace ah:=qd (ah.o.then (hm.more (by simp)));clear hm;have dc:=HD.o.c6;have df:=HD.o.f6;go_upto_region 4 with fail;have q1:=qJ HD.o.lt (qJ HF.o.lt (qJ HD.o.lt HF.o.lt));refine I5 HD.o ?_;rintro w2 ⟨hnew,hm⟩;simp only[pt]at hnew;clear dc df;replace HF:=qM hm HF;replace dR:=qd (dR.o.mod hm hbs);have z5:=(hm).size;replace ah:=qU ah hm;replace HD:=qd hnew;clear hnew hm;have dc:=HD.o.c6;have q6:=qJ HD.o.lt HF.o.lt;have jT:=qd HF.o.reads;rw[hfl]at jT;go_wp2_with (at_builtin;refine Je rfl rfl mG (World.ownsRow_lit w2 #[] 0 (zb _) (by simp) rfl) rfl rfl (jT.o.alloc (zb _) _) (yS _) (by omega) (by simp) ?_;intro v4 w4 dM hg4;rw[yz]at dM;obtain⟨A4,c4,rfl⟩:=bq dM;have hb4:Below w2.heap.size w2 w4:=((Below.refl _ _).alloc (zb _) _).trans hg4.below);obtain⟨wO,rfl,G7,hrow,_⟩:=fO.jy (show w4.ownsRow w2.heap.size 172 1 (.slice A4 bs.length c4) bs.length (ptrs (bs.map Prod.fst))from by simpa using dM) (by omega);have hsz:=ah.o.size
 refine bodyPost_ret (v:= .tuple #[.slice (some ⟨wO,0,none⟩) bs.length c4,.nilIface]) (by simp[results,Tryz.results219,go_sem]) rfl ⟨wO,⟨c4,rfl⟩,hrow,by omega,dR.o.mod (Mod.of_below hb4 []) (by simp),ah.o.then (Mod.of_below hb4 _)⟩
end
def nQ (l t:Int)(g:Nat):Bool:=decide (4*(g:Int)<=l)||decide (4*(g:Int)-l<=t)
def jR (l t:Int)(g lo gl:Nat):Nat:=if nQ l t g=false then 0 else if l<=2*(g:Int)then 1 else if 8<=g/\lo<gl then 3 else if g<64 then 2 else 1
def fI (l t:Int)(g lo gl:Nat):Bool:=nQ l t g && (decide (2*(g:Int)<l) && (decide (8<=g) && (decide (lo=gl) && decide (gl<5))))
theorem Ef (l t:Int)(g:Nat)(hg:g<=64)(hl:0<=l/\l<=1000)(ht:0<=t/\t<=1000)(w:World):Calls Tryz.prog 209 #[.int .i64 l,.int .i64 t,nI g] w λe w'=>e= .returned (.bool (nQ l t g))/\w=w':=by
 obtain⟨l0,l1⟩:=hl;obtain⟨t0,t1⟩:=ht;by_cases h1:4*(g:Int)<=l
 ·have hr:nQ l t g=true:=by simp[nQ,h1]
  rw[hr];clear hr;go_in;go_wp2;go_ret;exact⟨rfl,rfl⟩
 ·by_cases h2:4*(g:Int)-l<=t
  ·have hr:nQ l t g=true:=by simp[nQ,h2]
   rw[hr];clear hr;go_in;go_wp2;go_ret;exact⟨rfl,rfl⟩
  ·have hr:nQ l t g=false:=by simp[nQ,h1,h2]
   rw[hr];clear hr;go_in;go_wp2;go_ret;exact⟨rfl,rfl⟩
theorem agj (a b c d:Int)(P:Program)(w:World)(h1:0<=a)(h2:0<=b)(h3:0<=c)(h4:0<=d)(ts:Array TypeId)(t:TypeId):∃m,0<=m/\(Builtin.min_ ts t #[.int .i64 a,.int .i64 b,.int .i64 c,.int .i64 d]).run P w= .ok (.int .i64 m) w:=by
 have step:∀x y:Int,0<=x->0<=y->∃m,0<=m/\(Builtin.min2 (.int .i64 x) (.int .i64 y)).run P w= .ok (.int .i64 m) w:=λx y hx hy=>by
  unfold Builtin.min2;by_cases h:y<x
  ·exact⟨y,hy,by simp[h,go_sem]⟩
  ·exact⟨x,hx,by simp[h,go_sem]⟩
 obtain⟨m1,n1,e1⟩:=step a b h1 h2;obtain⟨m2,n2,e2⟩:=step m1 c n1 h3;obtain⟨m3,n3,e3⟩:=step m2 d n2 h4;refine⟨m3,n3, ?_⟩;show((Builtin.min2 (.int .i64 a) (.int .i64 b))>>=λx=>(Builtin.min2 x (.int .i64 c))>>=λx=>(Builtin.min2 x (.int .i64 d))>>=λx=>pure x).run P w=_;simp only[Sem.run_bind,e1,e2,e3,x8,Sem.run_pure]
theorem Gj (l t:Int)(g lo gl:Nat)(hg:Pw g)(hl:0<=l)(ht:0<=t)(w:World):Calls Tryz.prog 208 #[.int .i64 l,.int .i64 t,nI g,nI lo,nI gl] w λe w'=>e= .returned (.bool true)/\w=w':=by
 have HR:=qd (qE g hg w)
 have h3:(0:Int)<=(lo:Int):=by omega
 have h4:(0:Int)<=(gl:Int):=by omega
 obtain⟨m,hm0,hmn⟩:=agj l t (lo:Int) (gl:Int) Tryz.prog w hl ht h3 h4 #[3,3,3,3] 3;clear hg;go_in;go_wp2_with fail;refine(HR.o).mono ?_;rintro y w1 ⟨rfl,rfl⟩;go_wp2;go_ret;exact⟨rfl,rfl⟩
theorem Pp (l t:Int)(g lo gl:Nat)(hg:Pw g)(hl:0<=l/\l<=1000)(ht:0<=t/\t<=1000)(w:World):Calls Tryz.prog 166 #[.int .i64 l,.int .i64 t,nI g,nI lo,nI gl] w λe w'=>e= .returned (.int .i64 ((jR l t g lo gl:Nat):Int))/\w=w':=by
 have HF:=qd (Gj l t g lo gl hg hl.1 ht.1 w);have HN:=qd (Ef l t g hg.le hl ht w);have tN:=hg.le;obtain⟨l0,l1⟩:=hl;unfold jR;cases hb:nQ l t g
 case' false=>
  rw[hb]at HN;clear hb hg ht
 case' true=>
  rw[hb]at HN;clear hb hg ht;rw[if_neg (by decide)];by_cases h1:l<=2*(g:Int)
  focus
   rw[if_pos h1]
  rotate_left
  focus
   rw[if_neg h1];by_cases h2:8<=g
   focus
    by_cases h3:lo<gl
    focus
     rw[if_pos ⟨h2,h3⟩]
     have h2':(8:Int)<=(g:Int):=by omega
     have h3':(lo:Int)<(gl:Int):=by omega
    rotate_left
    focus
     rw[if_neg (λh=>h3 h.2)]
     have h2':(8:Int)<=(g:Int):=by omega
     have h3':¬(lo:Int)<(gl:Int):=by omega
     by_cases h4:g<64
     focus
      rw[if_pos h4]
      have h4':(g:Int)<64:=by omega
     rotate_left
     focus
      rw[if_neg h4]
      have h4':¬(g:Int)<64:=by omega
   rotate_left 3
   focus
    rw[if_neg (λh=>h2 h.1),if_pos (show g<64 by omega)]
    have h2':¬(8:Int)<=(g:Int):=by omega
    have h4':(g:Int)<64:=by omega
 all_goals
  go_in;go_wp2_with fail;refine(HF.o).mono ?_;rintro y w1 ⟨rfl,rfl⟩;go_wp2_with fail;refine(HN.o).mono ?_;rintro y w1 ⟨rfl,rfl⟩;go_wp2;go_ret;exact⟨rfl,rfl⟩
theorem ND (l t:Int)(g lo gl:Nat)(hg:Pw g)(hl:0<=l/\l<=1000)(ht:0<=t/\t<=1000)(w:World):Calls Tryz.prog 167 #[.int .i64 l,.int .i64 t,nI g,nI lo,nI gl] w λe w'=>e= .returned (.bool (fI l t g lo gl))/\w=w':=by
 have HF:=qd (Gj l t g lo gl hg hl.1 ht.1 w);have HN:=qd (Ef l t g hg.le hl ht w);have tN:=hg.le;obtain⟨l0,l1⟩:=hl;cases hb:nQ l t g
 case' false=>
  rw[hb]at HN;rw[show fI l t g lo gl=false from by simp[fI,hb]];clear hb hg ht
 case' true=>
  rw[hb]at HN;clear hg ht;by_cases h1:2*(g:Int)<l
  focus
   have g1:2*(g:Int)<l:=by omega
   by_cases h2:8<=g
   focus
    have g2:(8:Int)<=(g:Int):=by omega
    by_cases h3:lo=gl
    focus
     subst h3;by_cases h4:lo<5
     focus
      have g4:(lo:Int)<5:=by omega
      rw[show fI l t g lo lo=true from by simp[fI,hb,h1,h2,h4]]
     rotate_left
     focus
      have g4:¬(lo:Int)<5:=by omega
      rw[show fI l t g lo lo=false from by simp[fI,hb,h1,h2,h4]]
    rotate_left 2
    focus
     have g3:¬(lo:Int)=(gl:Int):=by omega
     rw[show fI l t g lo gl=false from by simp[fI,hb,h1,h2,h3]]
   rotate_left 3
   focus
    have g2:¬(8:Int)<=(g:Int):=by omega
    rw[show fI l t g lo gl=false from by simp[fI,hb,h1,h2]]
  rotate_left 4
  focus
   have g1:¬2*(g:Int)<l:=by omega
   rw[show fI l t g lo gl=false from by simp[fI,hb,h1]]
  all_goals
   clear hb
   try clear h1
   try clear h2
   try clear h4
 all_goals
  go_in;go_wp2_with fail;refine(HF.o).mono ?_;rintro y w1 ⟨rfl,rfl⟩;go_wp2_with fail;refine(HN.o).mono ?_;rintro y w1 ⟨rfl,rfl⟩;go_wp2;go_ret
  first|exact⟨rfl,rfl⟩|exact⟨jw (by simp;omega),rfl⟩
theorem NG (kind g each many:Nat)(hg:Pw g)(he:Pw each)(hk:kind=1/\each=g/\many=1\/kind=2/\each=2*g/\many=1\/kind=3/\each=g/\many=2)(w:World):
  Calls Tryz.prog 168 #[nI kind,nI g] w λe w'=>e= .returned (.tuple #[nI each,nI many,.nilIface])/\w=w':=by
 have HR:=qd (qE g hg w);have HE:=qd (qE each he w);have h64:=he.le
 have hm:∀q:Nat,((2*q:Nat):Int)=2*(q:Int):=λq=>by omega
 clear hg he;rcases hk with⟨rfl,rfl,rfl⟩|⟨rfl,rfl,rfl⟩|⟨rfl,rfl,rfl⟩
 all_goals
  try rw[hm]at HE
  try rw[hm]
  clear hm;go_in;go_wp2_with fail;refine(HR.o).mono ?_;rintro y w1 ⟨rfl,rfl⟩;go_wp2_with fail;refine(HE.o).mono ?_;rintro y w1 ⟨rfl,rfl⟩;go_wp2
 ·refine bodyPost_ret (v:= .tuple #[nI each,.int .i64 1,.nilIface]) (by simp[results,Tryz.results168,go_sem]) rfl ⟨rfl,rfl⟩
 ·refine bodyPost_ret (v:= .tuple #[.int .i64 (2*(g:Int)),.int .i64 1,.nilIface]) (by simp[results,Tryz.results168,go_sem]) rfl ⟨rfl,rfl⟩
 ·refine bodyPost_ret (v:= .tuple #[nI each,.int .i64 2,.nilIface]) (by simp[results,Tryz.results168,go_sem]) rfl ⟨rfl,rfl⟩
