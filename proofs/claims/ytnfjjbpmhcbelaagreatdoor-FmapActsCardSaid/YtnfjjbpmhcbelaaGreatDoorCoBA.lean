/- A dual's Step by its contract, while its tables are built. -/
import Derived.Test.YtnfjjbpmhcbelaaGreatDoorCoAO
import Derived.Test.YtnfjjbpmhcbelaaGreatDoorGaugeA
import Derived.Test.YtnfjjbpmhcbelaaGreatDoorSqM
namespace Go.Proofs.YtnfjjbpmhcbelaaGreatDoor
set_option maxRecDepth 100000
set_option maxHeartbeats 8000000
open Go.RowKit dI
section
theorem NZ {n k j:Nat}(h:(j+1)*n≤k):qg n k j=n:=by
 have:=Nat.add_one_mul j n;unfold qg;omega
theorem Y7 {n k j:Nat}(h:k<(j+1)*n)(h2:j*n≤k):qg n k j=k-j*n∧k-j*n<n:=by
 have:=Nat.add_one_mul j n;unfold qg;omega
theorem Y8 {n k j:Nat}(h:k<(j+1)*n)(h2:j*n≤k)(i:Nat):qg n (k+1) i=if i=j then qg n k j+1 else qg n k i:=by
 have h3:=Nat.add_one_mul j n;by_cases hij:i=j
 ·subst hij;rw[if_pos rfl];unfold qg;omega
 ·rw[if_neg hij];unfold qg;rcases Nat.lt_or_ge i j with hlt|hge
  ·have h4:=Nat.mul_le_mul_right n (show i+1≤j from hlt);have h5:=Nat.add_one_mul i n;omega
  ·have h4:=Nat.mul_le_mul_right n (show j+1≤i by omega);omega
section
variable {w w' : World} {db rb cap ob og : Nat} {bl : List (Nat × Nat × Nat)} {T : aC} {n depth k j mb : Nat}
theorem adD {b c:Nat×Nat×Nat}(hnd:(bH db rb ob og bl).Nodup){i:Nat}(hc:bl[i]?=some c)(hb:bl[j]?=some b)(hne:i≠j):∀q∈bB c,q∉bB b:=by
 unfold bH at hnd;simp only[List.nodup_cons]at hnd;exact Bw (f:=bB) hnd.2.2.2.2 hc hb hne
theorem vJ.stepped (h:vJ w db rb cap ob og bl T n depth k){b:Nat×Nat×Nat}(hb:bl[j]?=some b)(hk1:k<(j+1)*n)(hk2:j*n≤k)(hB:fH w' b.1 b.2.1 b.2.2 n (qg n k j+1))(hm:Mod [mb,b.1,b.2.1,b.2.2] w w')(hmb:mb∉bH db rb ob og bl):
  aj w' db 301 #[pQ ob,nI depth,.slice (some ⟨rb,0,none⟩) bl.length cap,.slice none 0 0,.pointer none,.bool false]∧fA w' rb (bl.map fun b=>b.1)∧TabAt w' ob og T∧∀(i:Nat) (c:Nat×Nat×Nat),bl[i]?=some c→fH w' c.1 c.2.1 c.2.2 n (qg n (k+1) i):=by
 have hnd:=h.nd;unfold bH at hnd;simp only[List.nodup_cons,List.mem_cons,not_or]at hnd;obtain⟨⟨d1,d2,d3,d4⟩,⟨r1,r2,r3⟩,⟨o1,o2⟩,g1,hn⟩:=hnd;have oV:=List.mem_of_getElem? hb;have hin:∀q∈bB b,q∈bl.flatMap fun b=> [b.1,b.2.1,b.2.2]:=fun q hq=>List.mem_flatMap.2 ⟨b,oV,hq⟩
 have hS:∀q,q≠mb→q∉(bl.flatMap fun b=> [b.1,b.2.1,b.2.2])→q∉[mb,b.1,b.2.1,b.2.2]:=fun q h1 h2 h3=>by
  rcases List.mem_cons.1 h3 with e|e
  ·exact h1 e
  ·exact h2 (hin q e)
 have hne:∀q∈bH db rb ob og bl,q≠mb:=fun q hq e=>hmb (e▸hq);refine⟨h.blk.mod hm (hS _ (hne _ (by simp[bH])) d4),h.row.mod hm (hS _ (hne _ (by simp[bH])) r3),h.tab.mod hm (hS _ (hne _ (by simp[bH])) o2) (hS _ (hne _ (by simp[bH])) g1),fun i c hc=> ?_⟩;rw[Y8 hk1 hk2];by_cases hij:i=j
 ·subst hij;rw[hb]at hc;cases hc;rw[if_pos rfl];exact hB
 ·rw[if_neg hij];have ha:=adD h.nd hc hb hij;obtain⟨m1,m2,m3⟩:=vK (db:=db) (rb:=rb) (ob:=ob) (og:=og) (List.mem_of_getElem? hc)
  have hz:∀q∈bB c,q≠mb→q∉[mb,b.1,b.2.1,b.2.2]:=fun q h1 h2 h3=>by
   rcases List.mem_cons.1 h3 with e|e
   ·exact h2 e
   ·exact ha q h1 e
  exact(h.qw i c hc).mod hm (hz _ (by simp[bB]) (hne _ m1)) (hz _ (by simp[bB]) (hne _ m2)) (hz _ (by simp[bB]) (hne _ m3))
end
theorem LV {W0:World}{E:Nat→Addr}(db rb cap ob og:Nat)(bl:List (Nat×Nat×Nat))(T:aC)(n depth k:Nat)(P:MP)(x:bL)(w:World)(h:vJ w db rb cap ob og bl T n depth k)
  (hM:aN w P x) (hE:Env W0 E w) (hmF:P.mb∉bH db rb ob og bl) (hb0:W0.heap.size≤P.mb) (hbF:∀q∈bH db rb ob og bl,W0.heap.size≤q):
  Calls Tryz.prog 301 #[bX db,.pointer (some ⟨P.mb,P.mo,none⟩)] w fun e w'=>e= .returned (.bool true)∧aN w' P ((x.add cV 1).add (cU 1) 1)∧Mod (P.mb::bH db rb ob og bl) w w'∧(if k+1=n*bl.length then∃fb bY eb vb cK,oW w' db rb cap ob og fb bY eb vb cK (bl.map fun b=>b.1) (iy bl) T (List.replicate bl.length (dR n n)) n depth 0∧w.heap.size≤fb∧w.heap.size≤eb∧w.heap.size≤vb else vJ w' db rb cap ob og bl T n depth (k+1)):=by
 have hml:=hM.lt;have HH:=qd h;have hle:=h.pow.le;have hpos:=h.pow.pos;have afT:=h.lt;obtain⟨n1,n2⟩:=h.many;have bc2:=h.blk.cell 2;have bc3:=h.blk.cell 3;simp only[gl]at bc2 bc3;have nu:=qd (wu db w bc3);have HM:=qd hM;have HE:=qd hE;unfold bX at nu⊢;clear h hM hE;go_in;go_wp2_with fail;refine(nu.out).mono ?_;rintro y w1 ⟨rfl,rfl⟩;go_wp2;clear bc2 bc3 nu;go_loopw [4,5,6,20] (fun _ _ _ i wr=>∃j:Nat,j≤bl.length∧i= .int .i64 j∧j*n≤k∧Below w.heap.size w wr) (fun _ _ _ i _=>bl.length-(intOf i).toNat)
 case atStart=>exact⟨0,by omega,rfl,by omega,Below.refl _ _⟩
 case round=>
  obtain⟨j,hj,rfl,hjk,hb⟩:=hrel;by_cases hlt:j<bl.length
  ·have hlt':(j:Int)<(bl.length:Int):=by omega
   have hj0:(0:Int)≤(j:Int):=by omega
   obtain⟨b,hbi⟩:∃b,bl[j]?=some b:=⟨_,List.getElem?_eq_getElem hlt⟩;have oV:=List.mem_of_getElem? hbi;have hD:=HH.out.mod (Mod.of_below hb []) (by simp);have hrw:=hD.row.at_ j b.1 (by rw[List.getElem?_map,hbi];rfl);have N7:=hD.qw j b hbi;by_cases hfull:(j+1)*n≤k
   ·rw[NZ hfull]at N7;have HC:=qd (LJ b.1 b.2.1 b.2.2 n (.pointer (some ⟨P.mb,P.mo,none⟩)) wr N7);have HB:=qd hb;unfold ou at HC;clear hbi hD N7 hb;go_wp2_with fail;refine(HC.out).mono ?_;rintro y w2 ⟨rfl,hb2⟩;have HB2:=qd (HB.out.trans (hb2.mono HB.out.size));clear hb2;go_wp2;go_roundw
    case rel=>exact⟨j+1,by omega,by go_num,hfull,HB2.out⟩
    case measure=>simp[intOf];omega
   ·have hpart:k<(j+1)*n:=by omega
    obtain⟨hko,hkn⟩:=Y7 hpart hjk;have hmul:=Nat.add_one_mul j n;have hbf:=hbF;have oz:=hmF;obtain⟨q1,q2,q3⟩:=vK (db:=db) (rb:=rb) (ob:=ob) (og:=og) oV;have hne:∀q∈bH db rb ob og bl,P.mb≠q:=fun q hq e=>oz (e▸hq);have HC:=qd (SL (W0:=W0) (E:=E) b.1 b.2.1 b.2.2 n (qg n k j) P x (by omega) wr N7 (HM.out.below hb) (HE.out.next hb) (hne _ q1) (hne _ q2) (hne _ q3) hb0 (hbf _ q1) (hbf _ q2) (hbf _ q3));have HD:=qd hD;have HB:=qd hb;have Fe:=qd hbi;unfold ou at HC;clear hbi hD N7 hb;go_wp2_with fail;refine(HC.out).mono ?_;rintro y w2 ⟨rfl,hB2,hM2,hm⟩;have hpc:=HD.out.stepped Fe.out hpart hjk hB2 hm oz;have Ak:=qd hpc;have VP:=qd hM2;have HB2:=qd hB2;have hmt:Mod (P.mb::bH db rb ob og bl) w w2:=(Mod.of_below HB.out _).then (hm.more (by intro q hq;simp only[List.mem_cons,List.not_mem_nil,or_false]at hq⊢;rcases hq with rfl|rfl|rfl|rfl;exact .inl rfl;exact .inr q1;exact .inr q2;exact .inr q3));have mY:=qd hmt;have bc2:=hpc.1.cell 2;simp only[gl]at bc2;have hnl:n*bl.length=bl.length*n:=Nat.mul_comm _ _;clear hpc hmt hM2 hm hB2;by_cases hlast:j+1=bl.length
    ·have hjl:(j:Int)=(bl.length:Int)-1:=by omega
     have hlm:bl.length*n=(j+1)*n:=by rw[hlast]
     have jm:=qd (sS b.1 n (qg n k j+1) _ w2 HB2.out.le hle HB2.out.blk);unfold ou at jm;obtain⟨dl,hdl⟩:∃dl,dl=n-(qg n k j+1):=⟨_,rfl⟩;rw[←hdl]at jm;by_cases hall:k+1=n*bl.length
     ·have hd0:dl=0:=by omega
      have hbg:∀(i:Nat) (q:Nat×Nat×Nat),bl[i]?=some q→fH w2 q.1 q.2.1 q.2.2 n n:=fun i q hq=>by
       have hi:=(List.getElem?_eq_some_iff.1 hq).1;have h1:=Ak.out.2.2.2 i q hq;have h2:=Nat.mul_le_mul_right n (show i+1≤bl.length by omega)
       rwa [NZ (by omega)]at h1
      have hBg:xZ w2 bl n 0:=⟨fun i q hq _=>hbg i q hq,fun i q _ hi=>by omega,fun i q hq=>(hbg i q hq).tab⟩;have y8:=qd (fun V (hV:Mod [] w2 V)=>Ta db rb cap ob og bl T n depth ⟨n1,n2⟩ HH.out.deep HH.out.pow HH.out.nd V (Ak.out.1.mod hV (by simp)) (Ak.out.2.1.mod hV (by simp)) (Ak.out.2.2.1.mod hV (by simp) (by simp)) (hBg.mod hV (by simp)));unfold bX at y8;rw[hd0]at jm;clear hbg hBg hdl hd0;go_wp2_with fail;refine(jm.out).mono ?_;rintro y w3 ⟨rfl,hw3⟩;have gZ:Mod [] w2 w3:=hw3▸Mod.drewN [] w2 1;have HB3:=qd (y8.out w3 gZ);have Nc:=qd (VP.out.mod gZ (by simp));have aeb:=qd (mY.out.then (gZ.more (by simp)));have gU:=qd gZ.size;have HS4:=qd mY.out.size;clear hw3 gZ;go_wp2_with fail;refine(HB3.out).mono ?_;rintro y w4 ⟨rfl,fb,bY,eb,vb,hrest⟩;have jr:=qd hrest;clear hrest;go_wp2;go_ret;obtain⟨cK,VO,pX,Fh,hvb,ku⟩:=jr.out;have hs3:=gU.out;have hs4:=HS4.out;refine⟨rfl,Nc.out.mod ku oz,aeb.out.then (ku.more (fun q hq=>List.mem_cons_of_mem _ hq)), ?_⟩
      try rw[if_pos hall]
      exact⟨fb,bY,eb,vb,by first|exact⟨cK,VO,by omega,by omega,by omega⟩|exact⟨⟨cK,VO⟩,by omega,by omega,by omega⟩⟩
     ·have hd0:¬(dl:Int)=0:=by omega
      have hd1:¬dl=0:=by omega
      clear hdl;go_wp2_with fail;refine(jm.out).mono ?_;rintro y w3 ⟨rfl,hw3⟩;have HW3:=qd (show Mod [] w2 w3 from hw3▸Mod.drewN [] w2 1);clear hw3;go_wp2;go_ret;refine⟨rfl,VP.out.mod HW3.out (by simp),mY.out.then (HW3.out.more (by simp)), ?_⟩
      try rw[if_neg hall]
      exact⟨Ak.out.1.mod HW3.out (by simp),Ak.out.2.1.mod HW3.out (by simp),fun i q hq=>(Ak.out.2.2.2 i q hq).mod HW3.out (by simp) (by simp) (by simp),Ak.out.2.2.1.mod HW3.out (by simp) (by simp),HH.out.pow,HH.out.many,by omega,HH.out.deep,HH.out.nd⟩
    ·have hjl:¬(j:Int)=(bl.length:Int)-1:=by omega
     have h2:=Nat.mul_le_mul_right n (show j+1+1≤bl.length by omega);have h3:=Nat.add_one_mul (j+1) n
     have hall:¬k+1=n*bl.length:=by omega
     go_wp2;go_ret;refine⟨rfl,VP.out,mY.out, ?_⟩
     try rw[if_neg hall]
     exact⟨Ak.out.1,Ak.out.2.1,Ak.out.2.2.2,Ak.out.2.2.1,HH.out.pow,HH.out.many,by omega,HH.out.deep,HH.out.nd⟩
  ·exfalso
   obtain rfl:j=bl.length:=by omega
   have:=Nat.mul_comm bl.length n;omega
end
section
variable {w w' wr : World} {base db depth g n ob og : Nat} {e t : TypeId} {cs : Array Value} {v : Value} {xs : List Value} {T : aC} {bl : List (Nat × Nat × Nat)}
theorem VQ:(Tryz.prog.info? 311).map (fun i=>(i.zero,i.size,i.bytes))=some (some (.pointer none),1,8):=by kernel_rfl
theorem KO:sH Tryz.prog 297 311 1 8:=AP Tryz.underlying297 VQ rfl (by decide) (by decide)
structure Gj (w wr:World)(db ob og:Nat)(T:aC)(n depth:Nat)(bl:List (Nat×Nat×Nat))(v:Value):Prop where
 blk:aj wr db 301 #[pQ ob,.int .i64 (depth:Int),v,.slice none 0 0,.pointer none,.bool false]
 own:wr.ownsRow w.heap.size 311 1 v bl.length (ptrs (bl.map fun b=>b.1))
 qw:∀(i:Nat) (b:Nat×Nat×Nat),bl[i]?=some b→fH wr b.1 b.2.1 b.2.2 n 0
 tab:TabAt wr ob og T
 nd:(db::bl.flatMap bB).Nodup
 low:∀q∈db::bl.flatMap bB,w.heap.size≤q∧q<wr.heap.size
 old:ob<w.heap.size∧og<w.heap.size
 below:Below w.heap.size w wr
theorem x9 {t':TypeId}{cs':Array Value}{z:Nat×Nat}(h:aj w g t cs)(h':w.heap[g]?=some (.cells cs' t' z)):t=t':=by
 have h0:w.heap[g]?=_:=h;rw[h0]at h';cases h';rfl
def Iw (w w':World)(db ob og:Nat)(T:aC)(n m depth:Nat):Prop:=
 ∃rb cap bl,w.heap.size≤db∧w.heap.size≤rb∧(∀q∈bl.flatMap bB,w.heap.size≤q)∧bl.length=m∧vJ w' db rb cap ob og bl T n depth 0
theorem QZ (h:w.ownsRow base e 1 v n xs)(hB:aj w g t cs)(ht:t≠e):some g≠v.ownBlock:=by
 rcases h.2 with⟨rfl,_⟩|⟨q,c,cur,rfl,_,hg,_⟩
 ·simp[Value.ownBlock]
 ·intro hq;simp[Value.ownBlock]at hq;subst hq;exact ht (x9 hB hg)
theorem o9 (h:w.ownsRow base e 1 v n xs)(hg:w.grownBy w' v.ownBlock)(hB:aj w g t cs)(ht:t≠e):aj w' g t cs:=
 (hg.block g hB.lt (QZ h hB ht)).trans hB
theorem jJ {S:List Nat}(h:w.ownsRow base e 1 v n xs)(hm:Mod S w w')(hS:∀k,v.ownBlock=some k→k∉S):w'.ownsRow base e 1 v n xs:=by
 refine⟨h.1, ?_⟩;rcases h.2 with hn|⟨g,cap,cur,hv,hb,hg,rest⟩
 ·exact .inl hn
 ·exact .inr ⟨g,cap,cur,hv,hb,(hm.block g (Array.getElem?_eq_some_iff.1 hg).1 (hS g (by rw[hv];rfl))).trans hg,rest⟩
theorem Gj.next {w2 w4:World}{bb tb gb:Nat}{l:Nat}{v4:Value}(h:Gj w wr db ob og T n depth bl v)(hl:bl.length+1=l)(hb:Below wr.heap.size wr w2)(hB:fH w2 bb tb gb n 0)(h1:wr.heap.size≤bb)(h2:wr.heap.size≤tb)(h3:wr.heap.size≤gb)(hown:w4.ownsRow w.heap.size 311 1 v4 l (ptrs (bl.map fun b=>b.1)++[pQ bb]))(hg:nA w2 w.heap.size v w4 v4):Gj w (w4.setCell ⟨db,2,none⟩ v4) db ob og T n depth (bl++[(bb,tb,gb)]) v4:=by
 subst hl;have hO2:=own_below h.own hb (Nat.le_refl _);have hD2:=h.blk.mod (Mod.of_below hb []) (by simp);have hD4:=o9 hO2 hg.kr hD2 (by decide)
 have hK:∀q1 q2 q3 k,fH w2 q1 q2 q3 n k→fH w4 q1 q2 q3 n k:=fun q1 q2 q3 k hq=>
  ⟨o9 hO2 hg.kr hq.blk (by decide),⟨hq.tab.wide,o9 hO2 hg.kr hq.tab.tab (by decide),o9 hO2 hg.kr hq.tab.Ia (by decide),hq.tab.ne⟩,hq.le,hq.pow,hq.ne1,hq.Vt⟩
 have hm:Mod [db] w4 (w4.setCell ⟨db,2,none⟩ v4):=(Mod.refl [db] w4).sl 2 v4;have hlow:=h.low;have hsz:=hb.size;have aec:=hg.size;have hwl:=h.below.size;have hnd:=List.nodup_cons.1 h.nd;have hBl:=hB.lt;have hBt:=hB.aT;have hBg:=hB.aU;have hdl:=hlow db (by simp)
 have hf:(bl++[(bb,tb,gb)]).flatMap bB=bl.flatMap bB++[bb,tb,gb]:=by simp[bB]
 have hq:∀q∈bl.flatMap bB,q≠db:=fun q hq e=>hnd.1 (e▸hq);have hbq:∀q1 q2 q3 k,fH w4 q1 q2 q3 n k→q1≠db→q2≠db→q3≠db→fH (w4.setCell ⟨db,2,none⟩ v4) q1 q2 q3 n k:=fun q1 q2 q3 k hh a1 a2 a3=>hh.mod hm (by simpa using a1) (by simpa using a2) (by simpa using a3);refine⟨by simpa using hD4.ak 2 v4, ?_,fun i b hi=> ?_, ?_, ?_,fun q hq2=> ?_,h.old, ?_⟩
 ·have hp:ptrs ((bl++[(bb,tb,gb)]).map fun b=>b.1)=ptrs (bl.map fun b=>b.1)++[pQ bb]:=by simp[ptrs]
  rw[hp,List.length_append];refine jJ hown hm fun k hk=> ?_;simp only[List.mem_singleton];rintro rfl;exact QZ hown hD4 (by decide) hk.symm
 ·by_cases hlt:i<bl.length
  ·rw[List.getElem?_append_left hlt]at hi;have oV:=List.mem_of_getElem? hi;have hin:∀q∈bB b,q∈bl.flatMap bB:=fun q hq=>List.mem_flatMap.2 ⟨b,oV,hq⟩;exact hbq _ _ _ _ (hK _ _ _ _ ((h.qw i b hi).mod (Mod.of_below hb []) (by simp) (by simp) (by simp))) (hq _ (hin _ (by simp[bB]))) (hq _ (hin _ (by simp[bB]))) (hq _ (hin _ (by simp[bB])))
  ·rw[List.getElem?_append_right (by omega)]at hi
   have h0:i-bl.length=0:=by
    rcases Nat.eq_zero_or_pos (i-bl.length)with e|e
    ·exact e
    ·rw[List.getElem?_eq_none (by simp;omega)]at hi;cases hi
   rw[h0]at hi;simp at hi;subst hi;exact hbq bb tb gb 0 (hK bb tb gb 0 hB) (by omega) (by omega) (by omega)
 ·have kD:=h.tab.below hb;have ho:=h.old;exact⟨kD.wide,(o9 hO2 hg.kr kD.tab (by decide)).mod hm (by simp;omega),(o9 hO2 hg.kr kD.Ia (by decide)).mod hm (by simp;omega),kD.ne⟩
 ·rw[hf,←List.cons_append,List.nodup_append];refine⟨h.nd, ?_,fun a ha b hb2=> ?_⟩
  ·have:=hB.ne1;have:=hB.Vt;have:=hB.tab.ne;simp;omega
  ·have:=hlow a ha;simp at hb2;omega
 ·rw[hf,←List.cons_append,List.mem_append]at hq2
  have hs:(w4.setCell ⟨db,2,none⟩ v4).heap.size=w4.heap.size:=by simp
  rcases hq2 with hq2|hq2
  ·have:=hlow q hq2;omega
  ·simp at hq2;omega
 ·have hb4:Below w.heap.size w w4:=(h.below.trans (hb.mono hwl)).trans hg.below;exact hb4.trans (hm.below (by intro k hk;simp at hk;omega) hb4.size)
theorem Gj.done (h:Gj w wr db ob og T n depth bl v)(hn:Pw n)(hm:1≤bl.length∧bl.length≤2)(hd:depth≤15):
  ∃rb cap,vJ wr db rb cap ob og bl T n depth 0∧w.heap.size≤rb:=by
 obtain⟨A,cap,rfl⟩:=bA h.own;obtain⟨rb,rfl,hrb,hrow,_⟩:=fA.fD h.own (by omega)
 obtain⟨g,cap',cur,hv,_,hg,_⟩:∃g cap' cur,(Value.slice (some ⟨rb,0,none⟩) bl.length cap)= .slice (some ⟨g,0,none⟩) bl.length cap'∧w.heap.size≤g∧wr.heap[g]?=some (.cells cur 311 (0,0))∧True:=by
  rcases h.own.2 with⟨he,_⟩|⟨g,c,cur,hv,hb,hg,_⟩
  ·cases he
  ·exact⟨g,c,cur,hv,hb,hg,trivial⟩
 cases hv;have hpos:=hn.pos;have hnd:=List.nodup_cons.1 h.nd;have hl0:=h.low db (by simp)
 have hrq:∀q∈bl.flatMap bB,rb≠q:=fun q hq e=>by
  subst e;obtain⟨b,hb,Aj⟩:=List.mem_flatMap.1 hq;obtain⟨i,hi⟩:=List.getElem?_of_mem hb;have hB:=h.qw i b hi;simp only[bB,List.mem_cons,List.not_mem_nil,or_false]at Aj;rcases Aj with rfl|rfl|rfl
  ·exact absurd (x9 hB.blk hg) (by decide)
  ·exact absurd (x9 hB.tab.tab hg) (by decide)
  ·exact absurd (x9 hB.tab.Ia hg) (by decide)
 have hrd:rb≠db:=fun e=>by subst e;exact absurd (x9 h.blk hg) (by decide)
 have hold:=h.old
 have hoq:∀q,q<w.heap.size→q∉bl.flatMap bB:=fun q hq hm=>by
  have:=(h.low q (List.mem_cons_of_mem _ hm)).1;omega
 have hne:=h.tab.ne;refine⟨rb,cap,⟨h.blk,hrow,fun i b hb=> ?_,h.tab,hn,hm,Nat.mul_pos hpos (by omega),hd, ?_⟩,hrb⟩
 ·have:qg n 0 i=0:=by unfold qg;omega
  rw[this];exact h.qw i b hb
 ·unfold bH;show(db::rb::ob::og::bl.flatMap bB).Nodup;simp only[List.nodup_cons,List.mem_cons,not_or];exact⟨⟨by omega,by omega,by omega,hnd.1⟩,⟨by omega,by omega,fun hq=>hrq rb hq rfl⟩,⟨hne,hoq _ hold.1⟩,hoq _ hold.2,hnd.2⟩
theorem Y9 (ob og n m depth:Nat)(dep:Int)(T:aC)(hn:Pw n)(hcase:m=1∧dep= -1∧depth=0∨m=2∧dep=(depth:Int)∧depth≤15)(w:World)(h:TabAt w ob og T):
  Calls Tryz.prog 166 #[pQ ob,.int .i64 (n:Int),.int .i64 dep] w fun e w'=>∃db,e= .returned (.tuple #[bX db,.nilIface])∧Iw w w' db ob og T n m depth∧Below w.heap.size w w':=by
 have htl:=h.aT;have hgl:=h.aU
 have Tc:¬dep>15:=by omega
 have N8:=qd (fun V:World=>Vu n hn V);unfold ou at N8;unfold bX;have N9:=qd h
 have hdd:(if dep<0 then 0 else dep)=(depth:Int):=by split<;>omega
 have hdm:max dep 0=(depth:Int):=by omega
 clear h;go_in;go_upto_region 6 with fail;refine bV (F:=fun v=>Gj w v w.heap.size ob og T n depth [] (.slice none 0 0)) ⟨by first|(rw[←hdd];exact aj.new w _ _)|(rw[←hdm];exact aj.new w _ _),World.ownsRow_nil _ _ _ _,fun i b hb=>by simp at hb,N9.out.below ((Below.refl _ _).alloc (Nat.le_refl _) _),by simp,by simp,⟨htl,hgl⟩,(Below.refl _ _).alloc (Nat.le_refl _) _⟩ ?_;rintro w1 hN0;obtain⟨db,hdb⟩:∃db,db=w.heap.size:=⟨_,rfl⟩;rw[←hdb]at hN0⊢
 replace hdb:w.heap.size≤db:=by omega
 have HN0:=qd hN0;clear hN0;go_wp2;go_loopw [6,7,9,10,11] (fun _ _ i _ _ wr=>∃(j:Nat) (bl:List (Nat×Nat×Nat)) (v:Value),j≤m∧i= .int .i64 j∧bl.length=j∧Gj w wr db ob og T n depth bl v) (fun _ _ i _ _ _=>m-(intOf i).toNat)
 case atStart=>exact⟨0,[],_,by omega,rfl,rfl,HN0.out⟩
 case round=>
  obtain⟨j,bl,v,hj,rfl,hbl,hN⟩:=hrel
  have hm2:m≤2:=by omega
  by_cases hlt:j<m
  ·have HN:=qd hN;have hwl:=hN.below.size;clear hN
   have hcond:j=0∨(j=1∧0≤dep):=by omega
   have HB1:=qd (N8.out wr);rcases hcond with rfl|⟨rfl,hdp⟩
   ·go_wp2_with fail;refine(HB1.out).mono ?_;rintro y w2 ⟨bb,tb,gb,hbb,htb,hgb,rfl,hB,hb⟩;have hb2:Below w.heap.size w w2:=HN.out.below.trans (hb.mono hwl);have hdl:db<wr.heap.size:=(HN.out.low db (by simp)).2;have hD2:=HN.out.blk.mod (Mod.of_below hb []) (by simp);have hO2:=own_below HN.out.own hb (Nat.le_refl _);have dc2:=hD2.cell 2;simp only[gl]at dc2;have df2:=hD2.frozen 2;have acj:=hb.size
    have aed:db<w2.heap.size:=by omega
    have HD2:=qd hD2;have HB2:=qd hB;have Fg:=qd hO2;have Hb:=qd hb;have Hb2:=qd hb2;clear hD2 hB hO2 hb hb2;go_wp2_with (at_builtin;refine iK rfl rfl KO Fg.out rfl rfl (by simp) rfl rfl (by omega) (by omega) ?_;intro v4 w4 dG hg4;rw[hbl]at dG;have j4:=qd (HN.out.next (by rw[hbl]) Hb.out HB2.out hbb htb hgb dG hg4);have hD4:=o9 Fg.out hg4.kr HD2.out (by decide);have dc4:=hD4.cell 2;have df4:=hD4.frozen 2;obtain⟨A4,c4,rfl⟩:=bA dG;simp only[gl]at dc4;clear hD4 dG hg4);go_roundw
    case rel=>exact⟨0+1,bl++[(bb,tb,gb)],_,by omega,by go_num,by simp[hbl],j4.out⟩
    case measure=>simp[intOf];omega
   ·go_wp2_with fail;refine(HB1.out).mono ?_;rintro y w2 ⟨bb,tb,gb,hbb,htb,hgb,rfl,hB,hb⟩;have hb2:Below w.heap.size w w2:=HN.out.below.trans (hb.mono hwl);have hdl:db<wr.heap.size:=(HN.out.low db (by simp)).2;have hD2:=HN.out.blk.mod (Mod.of_below hb []) (by simp);have hO2:=own_below HN.out.own hb (Nat.le_refl _);have dc2:=hD2.cell 2;simp only[gl]at dc2;have df2:=hD2.frozen 2;have acj:=hb.size
    have aed:db<w2.heap.size:=by omega
    have HD2:=qd hD2;have HB2:=qd hB;have Fg:=qd hO2;have Hb:=qd hb;have Hb2:=qd hb2;clear hD2 hB hO2 hb hb2;go_wp2_with (at_builtin;refine iK rfl rfl KO Fg.out rfl rfl (by simp) rfl rfl (by omega) (by omega) ?_;intro v4 w4 dG hg4;rw[hbl]at dG;have j4:=qd (HN.out.next (by rw[hbl]) Hb.out HB2.out hbb htb hgb dG hg4);have hD4:=o9 Fg.out hg4.kr HD2.out (by decide);have dc4:=hD4.cell 2;have df4:=hD4.frozen 2;obtain⟨A4,c4,rfl⟩:=bA dG;simp only[gl]at dc4;clear hD4 dG hg4);go_roundw
    case rel=>exact⟨1+1,bl++[(bb,tb,gb)],_,by omega,by go_num,by simp[hbl],j4.out⟩
    case measure=>simp[intOf];omega
  ·obtain rfl:j=m:=by omega
   obtain⟨rb,cap,hDu,hrb⟩:=hN.done hn (by omega) (by omega);have Fj:=qd hDu;have HN:=qd hN;clear hDu hN
   have hc0:¬(j:Int)=0:=by omega
   have hc1:(j:Int)=1→¬0≤dep:=by omega
   rcases hcase with⟨rfl,rfl,rfl⟩|⟨rfl,rfl,afU⟩
   focus
    skip
   rotate_left
   focus
    skip
   all_goals
    go_wp2;refine bodyPost_ret (v:= .tuple #[pQ db,.nilIface]) (by simp[results,Tryz.results166,go_sem]) rfl ?_;have hlow:=HN.out.low;exact⟨db,rfl,⟨rb,cap,bl,hdb,hrb,fun q hq=>(hlow q (List.mem_cons_of_mem _ hq)).1,hbl,Fj.out⟩,HN.out.below⟩
theorem KP (db rb cap ob og fb bY eb vb cK:Nat)(bI:List Nat)(bs:List (Nat×Nat))(T:aC)(Ts:List aC)(n depth next:Nat)(w:World)(h:oW w db rb cap ob og fb bY eb vb cK bI bs T Ts n depth next)(sW:T.gs.length≤64)(hnx:next=T.gs.length):
  Calls Tryz.prog 234 #[bX db] w fun e w'=>∃vR c',e= .returned (.tuple #[.slice (some ⟨vR,0,none⟩) bs.length c',.nilIface])∧fA w' vR (bs.map Prod.fst)∧w.heap.size≤vR∧iw w' bs Ts∧Mod [db] w w':=by
 have hnd:=h.nd;unfold aW at hnd;simp only[List.nodup_cons,List.mem_cons,not_or,List.mem_append]at hnd;obtain⟨⟨d1,d2,d3,d4,d5,d6,d7,d8⟩,_⟩:=hnd;obtain⟨n1,n2⟩:=h.many
 have hbs:∀b∈bs,b.1∉[db]∧b.2∉[db]:=fun b hb=>by
  simp only[List.mem_singleton];exact⟨fun e=>d8 (e▸dM.2 ⟨b,hb,.inl rfl⟩),fun e=>d8 (e▸dM.2 ⟨b,hb,.inr rfl⟩)⟩
 have HL:=qd (qO db rb cap ob og fb bY eb vb cK bI bs T Ts n depth next w h sW (by omega))
 have hz:T.gs.length-next=0:=by omega
 rw[hz]at HL;unfold bX at HL⊢;have hfl:(bs.map Prod.fst).length=bs.length:=List.length_map ..;have HD:=qd (h.blk);have HF:=qd (h.fresh);have dJ:=qd (h.tabs);have ah:=qd (Mod.refl [db] w);clear h hz;go_in;go_wp2_with fail;refine(HL.out).mono ?_;rintro y w1 ⟨rfl,hw1⟩;have hm:Mod [] w w1:=hw1▸Mod.drewN [] w 1;clear hw1 HL;replace HD:=qM hm HD;replace HF:=qM hm HF;replace dJ:=qd (dJ.out.mod hm (by simp));replace ah:=qd (ah.out.then (hm.more (by simp)));clear hm;have dc:=HD.out.c6;have df:=HD.out.f6;go_upto_region 4 with fail;have q1:=qJ HD.out.lt (qJ HF.out.lt (qJ HD.out.lt HF.out.lt));refine Hu HD.out ?_;rintro w2 ⟨hnew,hm⟩;simp only[pt]at hnew;clear dc df;replace HF:=qM hm HF;replace dJ:=qd (dJ.out.mod hm hbs);have z5:=(hm).size;replace ah:=qU ah hm;replace HD:=qd hnew;clear hnew hm;have dc:=HD.out.c6;have q6:=qJ HD.out.lt HF.out.lt;have nu:=qd HF.out.reads;rw[hfl]at nu;go_wp2_with (at_builtin;refine wT rfl rfl lu (World.ownsRow_lit w2 #[] 0 (Nat.le_refl _) (by simp) rfl) rfl rfl (nu.out.alloc (Nat.le_refl _) _) (xY _) (by omega) (by simp) ?_;intro v4 w4 dG hg4;rw[Nat.zero_add]at dG;obtain⟨A4,c4,rfl⟩:=bA dG;have hb4:Below w2.heap.size w2 w4:=((Below.refl _ _).alloc (Nat.le_refl _) _).trans hg4.below);obtain⟨vR,rfl,Gi,hrow,_⟩:=fA.fD (show w4.ownsRow w2.heap.size 184 1 (.slice A4 bs.length c4) bs.length (ptrs (bs.map Prod.fst))from by simpa using dG) (by omega);have hsz:=ah.out.size
 refine bodyPost_ret (v:= .tuple #[.slice (some ⟨vR,0,none⟩) bs.length c4,.nilIface]) (by simp[results,Tryz.results234,go_sem]) rfl ⟨vR,⟨c4,rfl⟩,hrow,by omega,dJ.out.mod (Mod.of_below hb4 []) (by simp),ah.out.then (Mod.of_below hb4 _)⟩
end
def mK (l t:Int)(g:Nat):Bool:=decide (4*(g:Int)≤l)||decide (4*(g:Int)-l≤t)
def jo (l t:Int)(g lo gl:Nat):Nat:=if mK l t g=false then 0 else if l≤2*(g:Int)then 1 else if 8≤g∧lo<gl then 3 else if g<64 then 2 else 1
def eU (l t:Int)(g lo gl:Nat):Bool:=mK l t g && (decide (2*(g:Int)<l) && (decide (8≤g) && (decide (lo=gl) && decide (gl<5))))
theorem Dx (l t:Int)(g:Nat)(hg:g≤64)(hl:0≤l∧l≤1000)(ht:0≤t∧t≤1000)(w:World):Calls Tryz.prog 224 #[.int .i64 l,.int .i64 t,nI g] w fun e w'=>e= .returned (.bool (mK l t g))∧w=w':=by
 obtain⟨l0,l1⟩:=hl;obtain⟨t0,t1⟩:=ht;by_cases h1:4*(g:Int)≤l
 ·have hr:mK l t g=true:=by simp[mK,h1]
  rw[hr];clear hr;go_in;go_wp2;go_ret;exact⟨rfl,rfl⟩
 ·by_cases h2:4*(g:Int)-l≤t
  ·have hr:mK l t g=true:=by simp[mK,h2]
   rw[hr];clear hr;go_in;go_wp2;go_ret;exact⟨rfl,rfl⟩
  ·have hr:mK l t g=false:=by simp[mK,h1,h2]
   rw[hr];clear hr;go_in;go_wp2;go_ret;exact⟨rfl,rfl⟩
theorem aee (a b c d:Int)(P:Program)(w:World)(h1:0≤a)(h2:0≤b)(h3:0≤c)(h4:0≤d)(ts:Array TypeId)(t:TypeId):∃m,0≤m∧(Builtin.min_ ts t #[.int .i64 a,.int .i64 b,.int .i64 c,.int .i64 d]).run P w= .ok (.int .i64 m) w:=by
 have step:∀x y:Int,0≤x→0≤y→∃m,0≤m∧(Builtin.min2 (.int .i64 x) (.int .i64 y)).run P w= .ok (.int .i64 m) w:=fun x y hx hy=>by
  unfold Builtin.min2;by_cases h:y<x
  ·exact⟨y,hy,by simp[h,go_sem]⟩
  ·exact⟨x,hx,by simp[h,go_sem]⟩
 obtain⟨m1,n1,e1⟩:=step a b h1 h2;obtain⟨m2,n2,e2⟩:=step m1 c n1 h3;obtain⟨m3,n3,e3⟩:=step m2 d n2 h4;refine⟨m3,n3, ?_⟩;show((Builtin.min2 (.int .i64 a) (.int .i64 b))>>=fun x=>(Builtin.min2 x (.int .i64 c))>>=fun x=>(Builtin.min2 x (.int .i64 d))>>=fun x=>pure x).run P w=_;simp only[Sem.run_bind,e1,e2,e3,Result.andThen_ok,Sem.run_pure]
theorem Fp (l t:Int)(g lo gl:Nat)(hg:Pw g)(hl:0≤l)(ht:0≤t)(w:World):Calls Tryz.prog 223 #[.int .i64 l,.int .i64 t,nI g,nI lo,nI gl] w fun e w'=>e= .returned (.bool true)∧w=w':=by
 have HR:=qd (pU g hg w)
 have h3:(0:Int)≤(lo:Int):=by omega
 have h4:(0:Int)≤(gl:Int):=by omega
 obtain⟨m,hm0,hmn⟩:=aee l t (lo:Int) (gl:Int) Tryz.prog w hl ht h3 h4 #[3,3,3,3] 3;clear hg;go_in;go_wp2_with fail;refine(HR.out).mono ?_;rintro y w1 ⟨rfl,rfl⟩;go_wp2;go_ret;exact⟨rfl,rfl⟩
theorem Oa (l t:Int)(g lo gl:Nat)(hg:Pw g)(hl:0≤l∧l≤1000)(ht:0≤t∧t≤1000)(w:World):Calls Tryz.prog 163 #[.int .i64 l,.int .i64 t,nI g,nI lo,nI gl] w fun e w'=>e= .returned (.int .i64 ((jo l t g lo gl:Nat):Int))∧w=w':=by
 have HF:=qd (Fp l t g lo gl hg hl.1 ht.1 w);have HN:=qd (Dx l t g hg.le hl ht w);have sW:=hg.le;obtain⟨l0,l1⟩:=hl;unfold jo;cases hb:mK l t g
 case' false=>
  rw[hb]at HN;clear hb hg ht
 case' true=>
  rw[hb]at HN;clear hb hg ht;rw[if_neg (by decide)];by_cases h1:l≤2*(g:Int)
  focus
   rw[if_pos h1]
  rotate_left
  focus
   rw[if_neg h1];by_cases h2:8≤g
   focus
    by_cases h3:lo<gl
    focus
     rw[if_pos ⟨h2,h3⟩]
     have h2':(8:Int)≤(g:Int):=by omega
     have h3':(lo:Int)<(gl:Int):=by omega
    rotate_left
    focus
     rw[if_neg (fun h=>h3 h.2)]
     have h2':(8:Int)≤(g:Int):=by omega
     have h3':¬(lo:Int)<(gl:Int):=by omega
     by_cases h4:g<64
     focus
      rw[if_pos h4]
      have h4':(g:Int)<64:=by omega
     rotate_left
     focus
      rw[if_neg h4]
      have h4':¬(g:Int)<64:=by omega
   rotate_left 3
   focus
    rw[if_neg (fun h=>h2 h.1),if_pos (show g<64 by omega)]
    have h2':¬(8:Int)≤(g:Int):=by omega
    have h4':(g:Int)<64:=by omega
 all_goals
  go_in;go_wp2_with fail;refine(HF.out).mono ?_;rintro y w1 ⟨rfl,rfl⟩;go_wp2_with fail;refine(HN.out).mono ?_;rintro y w1 ⟨rfl,rfl⟩;go_wp2;go_ret;exact⟨rfl,rfl⟩
theorem LW (l t:Int)(g lo gl:Nat)(hg:Pw g)(hl:0≤l∧l≤1000)(ht:0≤t∧t≤1000)(w:World):Calls Tryz.prog 164 #[.int .i64 l,.int .i64 t,nI g,nI lo,nI gl] w fun e w'=>e= .returned (.bool (eU l t g lo gl))∧w=w':=by
 have HF:=qd (Fp l t g lo gl hg hl.1 ht.1 w);have HN:=qd (Dx l t g hg.le hl ht w);have sW:=hg.le;obtain⟨l0,l1⟩:=hl;cases hb:mK l t g
 case' false=>
  rw[hb]at HN;rw[show eU l t g lo gl=false from by simp[eU,hb]];clear hb hg ht
 case' true=>
  rw[hb]at HN;clear hg ht;by_cases h1:2*(g:Int)<l
  focus
   have g1:2*(g:Int)<l:=by omega
   by_cases h2:8≤g
   focus
    have g2:(8:Int)≤(g:Int):=by omega
    by_cases h3:lo=gl
    focus
     subst h3;by_cases h4:lo<5
     focus
      have g4:(lo:Int)<5:=by omega
      rw[show eU l t g lo lo=true from by simp[eU,hb,h1,h2,h4]]
     rotate_left
     focus
      have g4:¬(lo:Int)<5:=by omega
      rw[show eU l t g lo lo=false from by simp[eU,hb,h1,h2,h4]]
    rotate_left 2
    focus
     have g3:¬(lo:Int)=(gl:Int):=by omega
     rw[show eU l t g lo gl=false from by simp[eU,hb,h1,h2,h3]]
   rotate_left 3
   focus
    have g2:¬(8:Int)≤(g:Int):=by omega
    rw[show eU l t g lo gl=false from by simp[eU,hb,h1,h2]]
  rotate_left 4
  focus
   have g1:¬2*(g:Int)<l:=by omega
   rw[show eU l t g lo gl=false from by simp[eU,hb,h1]]
  all_goals
   clear hb
   try clear h1
   try clear h2
   try clear h4
 all_goals
  go_in;go_wp2_with fail;refine(HF.out).mono ?_;rintro y w1 ⟨rfl,rfl⟩;go_wp2_with fail;refine(HN.out).mono ?_;rintro y w1 ⟨rfl,rfl⟩;go_wp2;go_ret
  first|exact⟨rfl,rfl⟩|exact⟨uz (by simp;omega),rfl⟩
theorem LX (kind g each many:Nat)(hg:Pw g)(he:Pw each)(hk:kind=1∧each=g∧many=1∨kind=2∧each=2*g∧many=1∨kind=3∧each=g∧many=2)(w:World):
  Calls Tryz.prog 165 #[nI kind,nI g] w fun e w'=>e= .returned (.tuple #[nI each,nI many,.nilIface])∧w=w':=by
 have HR:=qd (pU g hg w);have HE:=qd (pU each he w);have h64:=he.le
 have hm:∀q:Nat,((2*q:Nat):Int)=2*(q:Int):=fun q=>by omega
 clear hg he;rcases hk with⟨rfl,rfl,rfl⟩|⟨rfl,rfl,rfl⟩|⟨rfl,rfl,rfl⟩
 all_goals
  try rw[hm]at HE
  try rw[hm]
  clear hm;go_in;go_wp2_with fail;refine(HR.out).mono ?_;rintro y w1 ⟨rfl,rfl⟩;go_wp2_with fail;refine(HE.out).mono ?_;rintro y w1 ⟨rfl,rfl⟩;go_wp2
 ·refine bodyPost_ret (v:= .tuple #[nI each,.int .i64 1,.nilIface]) (by simp[results,Tryz.results165,go_sem]) rfl ⟨rfl,rfl⟩
 ·refine bodyPost_ret (v:= .tuple #[.int .i64 (2*(g:Int)),.int .i64 1,.nilIface]) (by simp[results,Tryz.results165,go_sem]) rfl ⟨rfl,rfl⟩
 ·refine bodyPost_ret (v:= .tuple #[nI each,.int .i64 2,.nilIface]) (by simp[results,Tryz.results165,go_sem]) rfl ⟨rfl,rfl⟩
end Go.Proofs.YtnfjjbpmhcbelaaGreatDoor
