/- A dual's Step by its contract, while its tables are built. -/
import Derived.Test.YtgkeameopnpinaaGreatDoorCoAO
import Derived.Test.YtgkeameopnpinaaGreatDoorLaneP
import Derived.Test.YtgkeameopnpinaaGreatDoorSqM
namespace Go.Proofs.YtgkeameopnpinaaGreatDoor
set_option maxRecDepth 100000
set_option maxHeartbeats 8000000
open Go.RowKit bY
section
theorem Lx {n k j:Nat}(h:(j+1)*n≤k):oC n k j=n:=by
 have:=Nat.add_one_mul j n;unfold oC;omega
theorem WE {n k j:Nat}(h:k<(j+1)*n)(h2:j*n≤k):oC n k j=k-j*n∧k-j*n<n:=by
 have:=Nat.add_one_mul j n;unfold oC;omega
theorem WG {n k j:Nat}(h:k<(j+1)*n)(h2:j*n≤k)(i:Nat):oC n (k+1) i=if i=j then oC n k j+1 else oC n k i:=by
 have h3:=Nat.add_one_mul j n;by_cases hij:i=j
 ·subst hij;rw[if_pos rfl];unfold oC;omega
 ·rw[if_neg hij];unfold oC;rcases Nat.lt_or_ge i j with hlt|hge
  ·have h4:=Nat.mul_le_mul_right n (show i+1≤j from hlt);have h5:=Nat.add_one_mul i n;omega
  ·have h4:=Nat.mul_le_mul_right n (show j+1≤i by omega);omega
section
variable {w w' : World} {db rb cap ob og : Nat} {bl : List (Nat × Nat × Nat)} {T : aB} {n depth k j mb : Nat}
theorem acd {b c:Nat×Nat×Nat}(hnd:(bD db rb ob og bl).Nodup){i:Nat}(hc:bl[i]?=some c)(hb:bl[j]?=some b)(hne:i≠j):∀q∈bg c,q∉bg b:=by
 unfold bD at hnd;simp only[List.nodup_cons]at hnd;exact zK (f:=bg) hnd.2.2.2.2 hc hb hne
theorem tK.stepped (h:tK w db rb cap ob og bl T n depth k){b:Nat×Nat×Nat}(hb:bl[j]?=some b)(hk1:k<(j+1)*n)(hk2:j*n≤k)(hB:eZ w' b.1 b.2.1 b.2.2 n (oC n k j+1))(hm:Mod [mb,b.1,b.2.1,b.2.2] w w')(hmb:mb∉bD db rb ob og bl):
  aj w' db 301 #[pQ ob,nI depth,.slice (some ⟨rb,0,none⟩) bl.length cap,.slice none 0 0,.pointer none,.bool false]∧eU w' rb (bl.map fun b=>b.1)∧TabAt w' ob og T∧∀(i:Nat) (c:Nat×Nat×Nat),bl[i]?=some c→eZ w' c.1 c.2.1 c.2.2 n (oC n (k+1) i):=by
 have hnd:=h.nd;unfold bD at hnd;simp only[List.nodup_cons,List.mem_cons,not_or]at hnd;obtain⟨⟨d1,d2,d3,d4⟩,⟨r1,r2,r3⟩,⟨o1,o2⟩,g1,hn⟩:=hnd;have nP:=List.mem_of_getElem? hb;have hin:∀q∈bg b,q∈bl.flatMap fun b=> [b.1,b.2.1,b.2.2]:=fun q hq=>List.mem_flatMap.2 ⟨b,nP,hq⟩
 have hS:∀q,q≠mb→q∉(bl.flatMap fun b=> [b.1,b.2.1,b.2.2])→q∉[mb,b.1,b.2.1,b.2.2]:=fun q h1 h2 h3=>by
  rcases List.mem_cons.1 h3 with e|e
  ·exact h1 e
  ·exact h2 (hin q e)
 have hne:∀q∈bD db rb ob og bl,q≠mb:=fun q hq e=>hmb (e▸hq);refine⟨h.blk.mod hm (hS _ (hne _ (by simp[bD])) d4),h.row.mod hm (hS _ (hne _ (by simp[bD])) r3),h.tab.mod hm (hS _ (hne _ (by simp[bD])) o2) (hS _ (hne _ (by simp[bD])) g1),fun i c hc=> ?_⟩;rw[WG hk1 hk2];by_cases hij:i=j
 ·subst hij;rw[hb]at hc;cases hc;rw[if_pos rfl];exact hB
 ·rw[if_neg hij];have ha:=acd h.nd hc hb hij;obtain⟨m1,m2,m3⟩:=tL (db:=db) (rb:=rb) (ob:=ob) (og:=og) (List.mem_of_getElem? hc)
  have hz:∀q∈bg c,q≠mb→q∉[mb,b.1,b.2.1,b.2.2]:=fun q h1 h2 h3=>by
   rcases List.mem_cons.1 h3 with e|e
   ·exact h2 e
   ·exact ha q h1 e
  exact(h.oI i c hc).mod hm (hz _ (by simp[bg]) (hne _ m1)) (hz _ (by simp[bg]) (hne _ m2)) (hz _ (by simp[bg]) (hne _ m3))
end
theorem J8 {W0:World}{E:Nat→Addr}(db rb cap ob og:Nat)(bl:List (Nat×Nat×Nat))(T:aB)(n depth k:Nat)(P:MP)(x:bI)(w:World)(h:tK w db rb cap ob og bl T n depth k)
  (hM:aM w P x) (hE:Env W0 E w) (hmF:P.mb∉bD db rb ob og bl) (hb0:W0.heap.size≤P.mb) (Yo:∀q∈bD db rb ob og bl,W0.heap.size≤q):
  Calls Tryz.prog 284 #[bT db,.pointer (some ⟨P.mb,P.mo,none⟩)] w fun e w'=>e= .returned (.bool true)∧aM w' P ((x.add cV 1).add (cU 1) 1)∧Mod (P.mb::bD db rb ob og bl) w w'∧(if k+1=n*bl.length then∃fb bU eb vb bX,nQ w' db rb cap ob og fb bU eb vb bX (bl.map fun b=>b.1) (gQ bl) T (List.replicate bl.length (dN n n)) n depth 0∧w.heap.size≤fb∧w.heap.size≤eb∧w.heap.size≤vb else tK w' db rb cap ob og bl T n depth (k+1)):=by
 have hml:=hM.lt;have HH:=qd h;have hle:=h.pow.le;have hpos:=h.pow.pos;have aeO:=h.lt;obtain⟨n1,n2⟩:=h.many;have bc2:=h.blk.cell 2;have bc3:=h.blk.cell 3;simp only[gl]at bc2 bc3;have lF:=qd (uy db w bc3);have HM:=qd hM;have HE:=qd hE;unfold bT at lF⊢;clear h hM hE;go_in;go_wp2_with fail;refine(lF.out).mono ?_;rintro y w1 ⟨rfl,rfl⟩;go_wp2;clear bc2 bc3 lF;go_loopw [4,5,6,20] (fun _ _ _ i wr=>∃j:Nat,j≤bl.length∧i= .int .i64 j∧j*n≤k∧Below w.heap.size w wr) (fun _ _ _ i _=>bl.length-(intOf i).toNat)
 case atStart=>exact⟨0,by omega,rfl,by omega,Below.refl _ _⟩
 case round=>
  obtain⟨j,hj,rfl,hjk,hb⟩:=hrel;by_cases hlt:j<bl.length
  ·have hlt':(j:Int)<(bl.length:Int):=by omega
   have hj0:(0:Int)≤(j:Int):=by omega
   obtain⟨b,hbi⟩:∃b,bl[j]?=some b:=⟨_,List.getElem?_eq_getElem hlt⟩;have nP:=List.mem_of_getElem? hbi;have hD:=HH.out.mod (Mod.of_below hb []) (by simp);have hrw:=hD.row.at_ j b.1 (by rw[List.getElem?_map,hbi];rfl);have LA:=hD.oI j b hbi;by_cases hfull:(j+1)*n≤k
   ·rw[Lx hfull]at LA;have HC:=qd (J2 b.1 b.2.1 b.2.2 n (.pointer (some ⟨P.mb,P.mo,none⟩)) wr LA);have HB:=qd hb;unfold nu at HC;clear hbi hD LA hb;go_wp2_with fail;refine(HC.out).mono ?_;rintro y w2 ⟨rfl,hb2⟩;have HB2:=qd (HB.out.trans (hb2.mono HB.out.size));clear hb2;go_wp2;go_roundw
    case rel=>exact⟨j+1,by omega,by go_num,hfull,HB2.out⟩
    case measure=>simp[intOf];omega
   ·have hpart:k<(j+1)*n:=by omega
    obtain⟨hko,hkn⟩:=WE hpart hjk;have hmul:=Nat.add_one_mul j n;have hbf:=Yo;have nS:=hmF;obtain⟨q1,q2,q3⟩:=tL (db:=db) (rb:=rb) (ob:=ob) (og:=og) nP;have hne:∀q∈bD db rb ob og bl,P.mb≠q:=fun q hq e=>nS (e▸hq);have HC:=qd (Qv (W0:=W0) (E:=E) b.1 b.2.1 b.2.2 n (oC n k j) P x (by omega) wr LA (HM.out.below hb) (HE.out.next hb) (hne _ q1) (hne _ q2) (hne _ q3) hb0 (hbf _ q1) (hbf _ q2) (hbf _ q3));have HD:=qd hD;have HB:=qd hb;have Dx:=qd hbi;unfold nu at HC;clear hbi hD LA hb;go_wp2_with fail;refine(HC.out).mono ?_;rintro y w2 ⟨rfl,hB2,hM2,hm⟩;have hpc:=HD.out.stepped Dx.out hpart hjk hB2 hm nS;have yU:=qd hpc;have HM2:=qd hM2;have HB2:=qd hB2;have hmt:Mod (P.mb::bD db rb ob og bl) w w2:=(Mod.of_below HB.out _).then (hm.more (by intro q hq;simp only[List.mem_cons,List.not_mem_nil,or_false]at hq⊢;rcases hq with rfl|rfl|rfl|rfl;exact .inl rfl;exact .inr q1;exact .inr q2;exact .inr q3));have lY:=qd hmt;have bc2:=hpc.1.cell 2;simp only[gl]at bc2;have hnl:n*bl.length=bl.length*n:=Nat.mul_comm _ _;clear hpc hmt hM2 hm hB2;by_cases hlast:j+1=bl.length
    ·have hjl:(j:Int)=(bl.length:Int)-1:=by omega
     have hlm:bl.length*n=(j+1)*n:=by rw[hlast]
     have iX:=qd (qV b.1 n (oC n k j+1) _ w2 HB2.out.le hle HB2.out.blk);unfold nu at iX;obtain⟨dl,hdl⟩:∃dl,dl=n-(oC n k j+1):=⟨_,rfl⟩;rw[←hdl]at iX;by_cases hall:k+1=n*bl.length
     ·have hd0:dl=0:=by omega
      have hbg:∀(i:Nat) (q:Nat×Nat×Nat),bl[i]?=some q→eZ w2 q.1 q.2.1 q.2.2 n n:=fun i q hq=>by
       have hi:=(List.getElem?_eq_some_iff.1 hq).1;have h1:=yU.out.2.2.2 i q hq;have h2:=Nat.mul_le_mul_right n (show i+1≤bl.length by omega)
       rwa [Lx (by omega)]at h1
      have hBg:vS w2 bl n 0:=⟨fun i q hq _=>hbg i q hq,fun i q _ hi=>by omega,fun i q hq=>(hbg i q hq).tab⟩;have xA:=qd (fun V (hV:Mod [] w2 V)=>QD db rb cap ob og bl T n depth ⟨n1,n2⟩ HH.out.deep HH.out.pow HH.out.nd V (yU.out.1.mod hV (by simp)) (yU.out.2.1.mod hV (by simp)) (yU.out.2.2.1.mod hV (by simp) (by simp)) (hBg.mod hV (by simp)));unfold bT at xA;rw[hd0]at iX;clear hbg hBg hdl hd0;go_wp2_with fail;refine(iX.out).mono ?_;rintro y w3 ⟨rfl,hw3⟩;have gB:Mod [] w2 w3:=hw3▸Mod.drewN [] w2 1;have HB3:=qd (xA.out w3 gB);have KU:=qd (HM2.out.mod gB (by simp));have acW:=qd (lY.out.then (gB.more (by simp)));have j5:=qd gB.size;have HS4:=qd lY.out.size;clear hw3 gB;go_wp2_with fail;refine(HB3.out).mono ?_;rintro y w4 ⟨rfl,fb,bU,eb,vb,hrest⟩;have iZ:=qd hrest;clear hrest;go_wp2;go_ret;obtain⟨bX,Tg,l9,I8,hvb,jP⟩:=iZ.out;have hs3:=j5.out;have hs4:=HS4.out;refine⟨rfl,KU.out.mod jP nS,acW.out.then (jP.more (fun q hq=>List.mem_cons_of_mem _ hq)), ?_⟩
      try rw[if_pos hall]
      exact⟨fb,bU,eb,vb,by first|exact⟨bX,Tg,by omega,by omega,by omega⟩|exact⟨⟨bX,Tg⟩,by omega,by omega,by omega⟩⟩
     ·have hd0:¬(dl:Int)=0:=by omega
      have hd1:¬dl=0:=by omega
      clear hdl;go_wp2_with fail;refine(iX.out).mono ?_;rintro y w3 ⟨rfl,hw3⟩;have HW3:=qd (show Mod [] w2 w3 from hw3▸Mod.drewN [] w2 1);clear hw3;go_wp2;go_ret;refine⟨rfl,HM2.out.mod HW3.out (by simp),lY.out.then (HW3.out.more (by simp)), ?_⟩
      try rw[if_neg hall]
      exact⟨yU.out.1.mod HW3.out (by simp),yU.out.2.1.mod HW3.out (by simp),fun i q hq=>(yU.out.2.2.2 i q hq).mod HW3.out (by simp) (by simp) (by simp),yU.out.2.2.1.mod HW3.out (by simp) (by simp),HH.out.pow,HH.out.many,by omega,HH.out.deep,HH.out.nd⟩
    ·have hjl:¬(j:Int)=(bl.length:Int)-1:=by omega
     have h2:=Nat.mul_le_mul_right n (show j+1+1≤bl.length by omega);have h3:=Nat.add_one_mul (j+1) n
     have hall:¬k+1=n*bl.length:=by omega
     go_wp2;go_ret;refine⟨rfl,HM2.out,lY.out, ?_⟩
     try rw[if_neg hall]
     exact⟨yU.out.1,yU.out.2.1,yU.out.2.2.2,yU.out.2.2.1,HH.out.pow,HH.out.many,by omega,HH.out.deep,HH.out.nd⟩
  ·exfalso
   obtain rfl:j=bl.length:=by omega
   have:=Nat.mul_comm bl.length n;omega
end
section
variable {w w' wr : World} {base db depth g n ob og : Nat} {e t : TypeId} {cs : Array Value} {v : Value} {xs : List Value} {T : aB} {bl : List (Nat × Nat × Nat)}
theorem Ti:(Tryz.prog.info? 306).map (fun i=>(i.zero,i.size,i.bytes))=some (some (.pointer none),1,8):=by kernel_rfl
theorem I9:vD Tryz.prog 297 306 1 8:=Gx Tryz.underlying297 Ti rfl (by decide) (by decide)
structure Ed (w wr:World)(db ob og:Nat)(T:aB)(n depth:Nat)(bl:List (Nat×Nat×Nat))(v:Value):Prop where
 blk:aj wr db 301 #[pQ ob,.int .i64 (depth:Int),v,.slice none 0 0,.pointer none,.bool false]
 own:wr.ownsRow w.heap.size 306 1 v bl.length (ptrs (bl.map fun b=>b.1))
 oI:∀(i:Nat) (b:Nat×Nat×Nat),bl[i]?=some b→eZ wr b.1 b.2.1 b.2.2 n 0
 tab:TabAt wr ob og T
 nd:(db::bl.flatMap bg).Nodup
 low:∀q∈db::bl.flatMap bg,w.heap.size≤q∧q<wr.heap.size
 old:ob<w.heap.size∧og<w.heap.size
 below:Below w.heap.size w wr
theorem vV {t':TypeId}{cs':Array Value}{z:Nat×Nat}(h:aj w g t cs)(h':w.heap[g]?=some (.cells cs' t' z)):t=t':=by
 have h0:w.heap[g]?=_:=h;rw[h0]at h';cases h';rfl
def FK (w w':World)(db ob og:Nat)(T:aB)(n m depth:Nat):Prop:=
 ∃rb cap bl,w.heap.size≤db∧w.heap.size≤rb∧(∀q∈bl.flatMap bg,w.heap.size≤q)∧bl.length=m∧tK w' db rb cap ob og bl T n depth 0
theorem OX (h:w.ownsRow base e 1 v n xs)(hB:aj w g t cs)(ht:t≠e):some g≠v.ownBlock:=by
 rcases h.2 with⟨rfl,_⟩|⟨q,c,cur,rfl,_,hg,_⟩
 ·simp[Value.ownBlock]
 ·intro hq;simp[Value.ownBlock]at hq;subst hq;exact ht (vV hB hg)
theorem nW (h:w.ownsRow base e 1 v n xs)(hg:w.grownBy w' v.ownBlock)(hB:aj w g t cs)(ht:t≠e):aj w' g t cs:=
 (hg.block g hB.lt (OX h hB ht)).trans hB
theorem jl {S:List Nat}(h:w.ownsRow base e 1 v n xs)(hm:Mod S w w')(hS:∀k,v.ownBlock=some k→k∉S):w'.ownsRow base e 1 v n xs:=by
 refine⟨h.1, ?_⟩;rcases h.2 with hn|⟨g,cap,cur,hv,hb,hg,rest⟩
 ·exact .inl hn
 ·exact .inr ⟨g,cap,cur,hv,hb,(hm.block g (Array.getElem?_eq_some_iff.1 hg).1 (hS g (by rw[hv];rfl))).trans hg,rest⟩
theorem Ed.next {w2 w4:World}{bb tb gb:Nat}{l:Nat}{v4:Value}(h:Ed w wr db ob og T n depth bl v)(hl:bl.length+1=l)(hb:Below wr.heap.size wr w2)(hB:eZ w2 bb tb gb n 0)(h1:wr.heap.size≤bb)(h2:wr.heap.size≤tb)(h3:wr.heap.size≤gb)(hown:w4.ownsRow w.heap.size 306 1 v4 l (ptrs (bl.map fun b=>b.1)++[pQ bb]))(hg:oG w2 w.heap.size v w4 v4):Ed w (w4.setCell ⟨db,2,none⟩ v4) db ob og T n depth (bl++[(bb,tb,gb)]) v4:=by
 subst hl;have hO2:=own_below h.own hb (Nat.le_refl _);have hD2:=h.blk.mod (Mod.of_below hb []) (by simp);have hD4:=nW hO2 hg.lX hD2 (by decide)
 have hK:∀q1 q2 q3 k,eZ w2 q1 q2 q3 n k→eZ w4 q1 q2 q3 n k:=fun q1 q2 q3 k hq=>
  ⟨nW hO2 hg.lX hq.blk (by decide),⟨hq.tab.wide,nW hO2 hg.lX hq.tab.tab (by decide),nW hO2 hg.lX hq.tab.Fq (by decide),hq.tab.ne⟩,hq.le,hq.pow,hq.ne1,hq.SF⟩
 have hm:Mod [db] w4 (w4.setCell ⟨db,2,none⟩ v4):=(Mod.refl [db] w4).sl 2 v4;have hlow:=h.low;have hsz:=hb.size;have acX:=hg.size;have hwl:=h.below.size;have hnd:=List.nodup_cons.1 h.nd;have hBl:=hB.lt;have hBt:=hB.aR;have hBg:=hB.aS;have hdl:=hlow db (by simp)
 have hf:(bl++[(bb,tb,gb)]).flatMap bg=bl.flatMap bg++[bb,tb,gb]:=by simp[bg]
 have hq:∀q∈bl.flatMap bg,q≠db:=fun q hq e=>hnd.1 (e▸hq);have hbq:∀q1 q2 q3 k,eZ w4 q1 q2 q3 n k→q1≠db→q2≠db→q3≠db→eZ (w4.setCell ⟨db,2,none⟩ v4) q1 q2 q3 n k:=fun q1 q2 q3 k hh a1 a2 a3=>hh.mod hm (by simpa using a1) (by simpa using a2) (by simpa using a3);refine⟨by simpa using hD4.ak 2 v4, ?_,fun i b hi=> ?_, ?_, ?_,fun q hq2=> ?_,h.old, ?_⟩
 ·have hp:ptrs ((bl++[(bb,tb,gb)]).map fun b=>b.1)=ptrs (bl.map fun b=>b.1)++[pQ bb]:=by simp[ptrs]
  rw[hp,List.length_append];refine jl hown hm fun k hk=> ?_;simp only[List.mem_singleton];rintro rfl;exact OX hown hD4 (by decide) hk.symm
 ·by_cases hlt:i<bl.length
  ·rw[List.getElem?_append_left hlt]at hi;have nP:=List.mem_of_getElem? hi;have hin:∀q∈bg b,q∈bl.flatMap bg:=fun q hq=>List.mem_flatMap.2 ⟨b,nP,hq⟩;exact hbq _ _ _ _ (hK _ _ _ _ ((h.oI i b hi).mod (Mod.of_below hb []) (by simp) (by simp) (by simp))) (hq _ (hin _ (by simp[bg]))) (hq _ (hin _ (by simp[bg]))) (hq _ (hin _ (by simp[bg])))
  ·rw[List.getElem?_append_right (by omega)]at hi
   have h0:i-bl.length=0:=by
    rcases Nat.eq_zero_or_pos (i-bl.length)with e|e
    ·exact e
    ·rw[List.getElem?_eq_none (by simp;omega)]at hi;cases hi
   rw[h0]at hi;simp at hi;subst hi;exact hbq bb tb gb 0 (hK bb tb gb 0 hB) (by omega) (by omega) (by omega)
 ·have jy:=h.tab.below hb;have ho:=h.old;exact⟨jy.wide,(nW hO2 hg.lX jy.tab (by decide)).mod hm (by simp;omega),(nW hO2 hg.lX jy.Fq (by decide)).mod hm (by simp;omega),jy.ne⟩
 ·rw[hf,←List.cons_append,List.nodup_append];refine⟨h.nd, ?_,fun a ha b hb2=> ?_⟩
  ·have:=hB.ne1;have:=hB.SF;have:=hB.tab.ne;simp;omega
  ·have:=hlow a ha;simp at hb2;omega
 ·rw[hf,←List.cons_append,List.mem_append]at hq2
  have hs:(w4.setCell ⟨db,2,none⟩ v4).heap.size=w4.heap.size:=by simp
  rcases hq2 with hq2|hq2
  ·have:=hlow q hq2;omega
  ·simp at hq2;omega
 ·have hb4:Below w.heap.size w w4:=(h.below.trans (hb.mono hwl)).trans hg.below;exact hb4.trans (hm.below (by intro k hk;simp at hk;omega) hb4.size)
theorem Ed.done (h:Ed w wr db ob og T n depth bl v)(hn:Pw n)(hm:1≤bl.length∧bl.length≤2)(hd:depth≤15):
  ∃rb cap,tK wr db rb cap ob og bl T n depth 0∧w.heap.size≤rb:=by
 obtain⟨A,cap,rfl⟩:=bE h.own;obtain⟨rb,rfl,hrb,hrow,_⟩:=eU.lK h.own (by omega)
 obtain⟨g,cap',cur,hv,_,hg,_⟩:∃g cap' cur,(Value.slice (some ⟨rb,0,none⟩) bl.length cap)= .slice (some ⟨g,0,none⟩) bl.length cap'∧w.heap.size≤g∧wr.heap[g]?=some (.cells cur 306 (0,0))∧True:=by
  rcases h.own.2 with⟨he,_⟩|⟨g,c,cur,hv,hb,hg,_⟩
  ·cases he
  ·exact⟨g,c,cur,hv,hb,hg,trivial⟩
 cases hv;have hpos:=hn.pos;have hnd:=List.nodup_cons.1 h.nd;have hl0:=h.low db (by simp)
 have hrq:∀q∈bl.flatMap bg,rb≠q:=fun q hq e=>by
  subst e;obtain⟨b,hb,yT⟩:=List.mem_flatMap.1 hq;obtain⟨i,hi⟩:=List.getElem?_of_mem hb;have hB:=h.oI i b hi;simp only[bg,List.mem_cons,List.not_mem_nil,or_false]at yT;rcases yT with rfl|rfl|rfl
  ·exact absurd (vV hB.blk hg) (by decide)
  ·exact absurd (vV hB.tab.tab hg) (by decide)
  ·exact absurd (vV hB.tab.Fq hg) (by decide)
 have hrd:rb≠db:=fun e=>by subst e;exact absurd (vV h.blk hg) (by decide)
 have hold:=h.old
 have hoq:∀q,q<w.heap.size→q∉bl.flatMap bg:=fun q hq hm=>by
  have:=(h.low q (List.mem_cons_of_mem _ hm)).1;omega
 have hne:=h.tab.ne;refine⟨rb,cap,⟨h.blk,hrow,fun i b hb=> ?_,h.tab,hn,hm,Nat.mul_pos hpos (by omega),hd, ?_⟩,hrb⟩
 ·have:oC n 0 i=0:=by unfold oC;omega
  rw[this];exact h.oI i b hb
 ·unfold bD;show(db::rb::ob::og::bl.flatMap bg).Nodup;simp only[List.nodup_cons,List.mem_cons,not_or];exact⟨⟨by omega,by omega,by omega,hnd.1⟩,⟨by omega,by omega,fun hq=>hrq rb hq rfl⟩,⟨hne,hoq _ hold.1⟩,hoq _ hold.2,hnd.2⟩
theorem WH (ob og n m depth:Nat)(dep:Int)(T:aB)(hn:Pw n)(hcase:m=1∧dep= -1∧depth=0∨m=2∧dep=(depth:Int)∧depth≤15)(w:World)(h:TabAt w ob og T):
  Calls Tryz.prog 171 #[pQ ob,.int .i64 (n:Int),.int .i64 dep] w fun e w'=>∃db,e= .returned (.tuple #[bT db,.nilIface])∧FK w w' db ob og T n m depth∧Below w.heap.size w w':=by
 have htl:=h.aR;have hgl:=h.aS
 have QE:¬dep>15:=by omega
 have LB:=qd (fun V:World=>SG n hn V);unfold nu at LB;unfold bT;have LC:=qd h
 have hdd:(if dep<0 then 0 else dep)=(depth:Int):=by split<;>omega
 have hdm:max dep 0=(depth:Int):=by omega
 clear h;go_in;go_upto_region 6 with fail;refine dA (F:=fun v=>Ed w v w.heap.size ob og T n depth [] (.slice none 0 0)) ⟨by first|(rw[←hdd];exact aj.new w _ _)|(rw[←hdm];exact aj.new w _ _),World.ownsRow_nil _ _ _ _,fun i b hb=>by simp at hb,LC.out.below ((Below.refl _ _).alloc (Nat.le_refl _) _),by simp,by simp,⟨htl,hgl⟩,(Below.refl _ _).alloc (Nat.le_refl _) _⟩ ?_;rintro w1 hN0;obtain⟨db,hdb⟩:∃db,db=w.heap.size:=⟨_,rfl⟩;rw[←hdb]at hN0⊢
 replace hdb:w.heap.size≤db:=by omega
 have LD:=qd hN0;clear hN0;go_wp2;go_loopw [6,7,9,10,11] (fun _ _ i _ _ wr=>∃(j:Nat) (bl:List (Nat×Nat×Nat)) (v:Value),j≤m∧i= .int .i64 j∧bl.length=j∧Ed w wr db ob og T n depth bl v) (fun _ _ i _ _ _=>m-(intOf i).toNat)
 case atStart=>exact⟨0,[],_,by omega,rfl,rfl,LD.out⟩
 case round=>
  obtain⟨j,bl,v,hj,rfl,hbl,hN⟩:=hrel
  have hm2:m≤2:=by omega
  by_cases hlt:j<m
  ·have HN:=qd hN;have hwl:=hN.below.size;clear hN
   have hcond:j=0∨(j=1∧0≤dep):=by omega
   have HB1:=qd (LB.out wr);rcases hcond with rfl|⟨rfl,hdp⟩
   ·go_wp2_with fail;refine(HB1.out).mono ?_;rintro y w2 ⟨bb,tb,gb,hbb,htb,hgb,rfl,hB,hb⟩;have hb2:Below w.heap.size w w2:=HN.out.below.trans (hb.mono hwl);have hdl:db<wr.heap.size:=(HN.out.low db (by simp)).2;have hD2:=HN.out.blk.mod (Mod.of_below hb []) (by simp);have hO2:=own_below HN.out.own hb (Nat.le_refl _);have dc2:=hD2.cell 2;simp only[gl]at dc2;have df2:=hD2.frozen 2;have aaI:=hb.size
    have acY:db<w2.heap.size:=by omega
    have HD2:=qd hD2;have HB2:=qd hB;have xg:=qd hO2;have Hb:=qd hb;have Hb2:=qd hb2;clear hD2 hB hO2 hb hb2;go_wp2_with (at_builtin;refine jM rfl rfl I9 xg.out rfl rfl (by simp) rfl rfl (by omega) (by omega) ?_;intro v4 w4 dD hg4;rw[hbl]at dD;have jK:=qd (HN.out.next (by rw[hbl]) Hb.out HB2.out hbb htb hgb dD hg4);have hD4:=nW xg.out hg4.lX HD2.out (by decide);have dc4:=hD4.cell 2;have df4:=hD4.frozen 2;obtain⟨A4,c4,rfl⟩:=bE dD;simp only[gl]at dc4;clear hD4 dD hg4);go_roundw
    case rel=>exact⟨0+1,bl++[(bb,tb,gb)],_,by omega,by go_num,by simp[hbl],jK.out⟩
    case measure=>simp[intOf];omega
   ·go_wp2_with fail;refine(HB1.out).mono ?_;rintro y w2 ⟨bb,tb,gb,hbb,htb,hgb,rfl,hB,hb⟩;have hb2:Below w.heap.size w w2:=HN.out.below.trans (hb.mono hwl);have hdl:db<wr.heap.size:=(HN.out.low db (by simp)).2;have hD2:=HN.out.blk.mod (Mod.of_below hb []) (by simp);have hO2:=own_below HN.out.own hb (Nat.le_refl _);have dc2:=hD2.cell 2;simp only[gl]at dc2;have df2:=hD2.frozen 2;have aaI:=hb.size
    have acY:db<w2.heap.size:=by omega
    have HD2:=qd hD2;have HB2:=qd hB;have xg:=qd hO2;have Hb:=qd hb;have Hb2:=qd hb2;clear hD2 hB hO2 hb hb2;go_wp2_with (at_builtin;refine jM rfl rfl I9 xg.out rfl rfl (by simp) rfl rfl (by omega) (by omega) ?_;intro v4 w4 dD hg4;rw[hbl]at dD;have jK:=qd (HN.out.next (by rw[hbl]) Hb.out HB2.out hbb htb hgb dD hg4);have hD4:=nW xg.out hg4.lX HD2.out (by decide);have dc4:=hD4.cell 2;have df4:=hD4.frozen 2;obtain⟨A4,c4,rfl⟩:=bE dD;simp only[gl]at dc4;clear hD4 dD hg4);go_roundw
    case rel=>exact⟨1+1,bl++[(bb,tb,gb)],_,by omega,by go_num,by simp[hbl],jK.out⟩
    case measure=>simp[intOf];omega
  ·obtain rfl:j=m:=by omega
   obtain⟨rb,cap,hDu,hrb⟩:=hN.done hn (by omega) (by omega);have Dy:=qd hDu;have HN:=qd hN;clear hDu hN
   have hc0:¬(j:Int)=0:=by omega
   have hc1:(j:Int)=1→¬0≤dep:=by omega
   rcases hcase with⟨rfl,rfl,rfl⟩|⟨rfl,rfl,aeP⟩
   focus
    skip
   rotate_left
   focus
    skip
   all_goals
    go_wp2;refine bodyPost_ret (v:= .tuple #[pQ db,.nilIface]) (by simp[results,Tryz.results171,go_sem]) rfl ?_;have hlow:=HN.out.low;exact⟨db,rfl,⟨rb,cap,bl,hdb,hrb,fun q hq=>(hlow q (List.mem_cons_of_mem _ hq)).1,hbl,Dy.out⟩,HN.out.below⟩
theorem Ja (db rb cap ob og fb bU eb vb bX:Nat)(bF:List Nat)(bs:List (Nat×Nat))(T:aB)(Ts:List aB)(n depth next:Nat)(w:World)(h:nQ w db rb cap ob og fb bU eb vb bX bF bs T Ts n depth next)(qY:T.gs.length≤64)(hnx:next=T.gs.length):
  Calls Tryz.prog 217 #[bT db] w fun e w'=>∃tZ c',e= .returned (.tuple #[.slice (some ⟨tZ,0,none⟩) bs.length c',.nilIface])∧eU w' tZ (bs.map Prod.fst)∧w.heap.size≤tZ∧gP w' bs Ts∧Mod [db] w w':=by
 have hnd:=h.nd;unfold aU at hnd;simp only[List.nodup_cons,List.mem_cons,not_or,List.mem_append]at hnd;obtain⟨⟨d1,d2,d3,d4,d5,d6,d7,d8⟩,_⟩:=hnd;obtain⟨n1,n2⟩:=h.many
 have hbs:∀b∈bs,b.1∉[db]∧b.2∉[db]:=fun b hb=>by
  simp only[List.mem_singleton];exact⟨fun e=>d8 (e▸dJ.2 ⟨b,hb,.inl rfl⟩),fun e=>d8 (e▸dJ.2 ⟨b,hb,.inr rfl⟩)⟩
 have HL:=qd (pq db rb cap ob og fb bU eb vb bX bF bs T Ts n depth next w h qY (by omega))
 have hz:T.gs.length-next=0:=by omega
 rw[hz]at HL;unfold bT at HL⊢;have hfl:(bs.map Prod.fst).length=bs.length:=List.length_map ..;have HD:=qd (h.blk);have HF:=qd (h.fresh);have dG:=qd (h.tabs);have ah:=qd (Mod.refl [db] w);clear h hz;go_in;go_wp2_with fail;refine(HL.out).mono ?_;rintro y w1 ⟨rfl,hw1⟩;have hm:Mod [] w w1:=hw1▸Mod.drewN [] w 1;clear hw1 HL;replace HD:=qM hm HD;replace HF:=qM hm HF;replace dG:=qd (dG.out.mod hm (by simp));replace ah:=qd (ah.out.then (hm.more (by simp)));clear hm;have dc:=HD.out.c6;have df:=HD.out.f6;go_upto_region 4 with fail;have q1:=qJ HD.out.lt (qJ HF.out.lt (qJ HD.out.lt HF.out.lt));refine EY HD.out ?_;rintro w2 ⟨hnew,hm⟩;simp only[pt]at hnew;clear dc df;replace HF:=qM hm HF;replace dG:=qd (dG.out.mod hm hbs);have z5:=(hm).size;replace ah:=qU ah hm;replace HD:=qd hnew;clear hnew hm;have dc:=HD.out.c6;have q6:=qJ HD.out.lt HF.out.lt;have lF:=qd HF.out.reads;rw[hfl]at lF;go_wp2_with (at_builtin;refine Fg rfl rfl kI (World.ownsRow_lit w2 #[] 0 (Nat.le_refl _) (by simp) rfl) rfl rfl (lF.out.alloc (Nat.le_refl _) _) (vR _) (by omega) (by simp) ?_;intro v4 w4 dD hg4;rw[Nat.zero_add]at dD;obtain⟨A4,c4,rfl⟩:=bE dD;have hb4:Below w2.heap.size w2 w4:=((Below.refl _ _).alloc (Nat.le_refl _) _).trans hg4.below);obtain⟨tZ,rfl,Ec,hrow,_⟩:=eU.lK (show w4.ownsRow w2.heap.size 168 1 (.slice A4 bs.length c4) bs.length (ptrs (bs.map Prod.fst))from by simpa using dD) (by omega);have hsz:=ah.out.size
 refine bodyPost_ret (v:= .tuple #[.slice (some ⟨tZ,0,none⟩) bs.length c4,.nilIface]) (by simp[results,Tryz.results217,go_sem]) rfl ⟨tZ,⟨c4,rfl⟩,hrow,by omega,dG.out.mod (Mod.of_below hb4 []) (by simp),ah.out.then (Mod.of_below hb4 _)⟩
end
def lN (l t:Int)(g:Nat):Bool:=decide (4*(g:Int)≤l)||decide (4*(g:Int)-l≤t)
def iY (l t:Int)(g lo gl:Nat):Nat:=if lN l t g=false then 0 else if l≤2*(g:Int)then 1 else if 8≤g∧lo<gl then 3 else if g<64 then 2 else 1
def eG (l t:Int)(g lo gl:Nat):Bool:=lN l t g && (decide (2*(g:Int)<l) && (decide (8≤g) && (decide (lo=gl) && decide (gl<5))))
theorem BG (l t:Int)(g:Nat)(hg:g≤64)(hl:0≤l∧l≤1000)(ht:0≤t∧t≤1000)(w:World):Calls Tryz.prog 207 #[.int .i64 l,.int .i64 t,nI g] w fun e w'=>e= .returned (.bool (lN l t g))∧w=w':=by
 obtain⟨l0,l1⟩:=hl;obtain⟨t0,t1⟩:=ht;by_cases h1:4*(g:Int)≤l
 ·have hr:lN l t g=true:=by simp[lN,h1]
  rw[hr];clear hr;go_in;go_wp2;go_ret;exact⟨rfl,rfl⟩
 ·by_cases h2:4*(g:Int)-l≤t
  ·have hr:lN l t g=true:=by simp[lN,h2]
   rw[hr];clear hr;go_in;go_wp2;go_ret;exact⟨rfl,rfl⟩
  ·have hr:lN l t g=false:=by simp[lN,h1,h2]
   rw[hr];clear hr;go_in;go_wp2;go_ret;exact⟨rfl,rfl⟩
theorem acZ (a b c d:Int)(P:Program)(w:World)(h1:0≤a)(h2:0≤b)(h3:0≤c)(h4:0≤d)(ts:Array TypeId)(t:TypeId):∃m,0≤m∧(Builtin.min_ ts t #[.int .i64 a,.int .i64 b,.int .i64 c,.int .i64 d]).run P w= .ok (.int .i64 m) w:=by
 have step:∀x y:Int,0≤x→0≤y→∃m,0≤m∧(Builtin.min2 (.int .i64 x) (.int .i64 y)).run P w= .ok (.int .i64 m) w:=fun x y hx hy=>by
  unfold Builtin.min2;by_cases h:y<x
  ·exact⟨y,hy,by simp[h,go_sem]⟩
  ·exact⟨x,hx,by simp[h,go_sem]⟩
 obtain⟨m1,n1,e1⟩:=step a b h1 h2;obtain⟨m2,n2,e2⟩:=step m1 c n1 h3;obtain⟨m3,n3,e3⟩:=step m2 d n2 h4;refine⟨m3,n3, ?_⟩;show((Builtin.min2 (.int .i64 a) (.int .i64 b))>>=fun x=>(Builtin.min2 x (.int .i64 c))>>=fun x=>(Builtin.min2 x (.int .i64 d))>>=fun x=>pure x).run P w=_;simp only[Sem.run_bind,e1,e2,e3,Result.andThen_ok,Sem.run_pure]
theorem Dz (l t:Int)(g lo gl:Nat)(hg:Pw g)(hl:0≤l)(ht:0≤t)(w:World):Calls Tryz.prog 206 #[.int .i64 l,.int .i64 t,nI g,nI lo,nI gl] w fun e w'=>e= .returned (.bool true)∧w=w':=by
 have HR:=qd (ou g hg w)
 have h3:(0:Int)≤(lo:Int):=by omega
 have h4:(0:Int)≤(gl:Int):=by omega
 obtain⟨m,hm0,hmn⟩:=acZ l t (lo:Int) (gl:Int) Tryz.prog w hl ht h3 h4 #[3,3,3,3] 3;clear hg;go_in;go_wp2_with fail;refine(HR.out).mono ?_;rintro y w1 ⟨rfl,rfl⟩;go_wp2;go_ret;exact⟨rfl,rfl⟩
theorem LG (l t:Int)(g lo gl:Nat)(hg:Pw g)(hl:0≤l∧l≤1000)(ht:0≤t∧t≤1000)(w:World):Calls Tryz.prog 168 #[.int .i64 l,.int .i64 t,nI g,nI lo,nI gl] w fun e w'=>e= .returned (.int .i64 ((iY l t g lo gl:Nat):Int))∧w=w':=by
 have HF:=qd (Dz l t g lo gl hg hl.1 ht.1 w);have HN:=qd (BG l t g hg.le hl ht w);have qY:=hg.le;obtain⟨l0,l1⟩:=hl;unfold iY;cases hb:lN l t g
 case' false=>
  rw[hb]at HN;clear hb hg ht
 case' true=>
  rw[hb]at HN;clear hb hg ht;rw[if_neg (by decide)];by_cases h1:l≤2*(g:Int)
  focus
   rw[if_pos h1]
  rotate_left
  focus
   rw[if_neg h1];by_cases h2:8≤g
   focus
    by_cases h3:lo<gl
    focus
     rw[if_pos ⟨h2,h3⟩]
     have h2':(8:Int)≤(g:Int):=by omega
     have h3':(lo:Int)<(gl:Int):=by omega
    rotate_left
    focus
     rw[if_neg (fun h=>h3 h.2)]
     have h2':(8:Int)≤(g:Int):=by omega
     have h3':¬(lo:Int)<(gl:Int):=by omega
     by_cases h4:g<64
     focus
      rw[if_pos h4]
      have h4':(g:Int)<64:=by omega
     rotate_left
     focus
      rw[if_neg h4]
      have h4':¬(g:Int)<64:=by omega
   rotate_left 3
   focus
    rw[if_neg (fun h=>h2 h.1),if_pos (show g<64 by omega)]
    have h2':¬(8:Int)≤(g:Int):=by omega
    have h4':(g:Int)<64:=by omega
 all_goals
  go_in;go_wp2_with fail;refine(HF.out).mono ?_;rintro y w1 ⟨rfl,rfl⟩;go_wp2_with fail;refine(HN.out).mono ?_;rintro y w1 ⟨rfl,rfl⟩;go_wp2;go_ret;exact⟨rfl,rfl⟩
theorem J9 (l t:Int)(g lo gl:Nat)(hg:Pw g)(hl:0≤l∧l≤1000)(ht:0≤t∧t≤1000)(w:World):Calls Tryz.prog 169 #[.int .i64 l,.int .i64 t,nI g,nI lo,nI gl] w fun e w'=>e= .returned (.bool (eG l t g lo gl))∧w=w':=by
 have HF:=qd (Dz l t g lo gl hg hl.1 ht.1 w);have HN:=qd (BG l t g hg.le hl ht w);have qY:=hg.le;obtain⟨l0,l1⟩:=hl;cases hb:lN l t g
 case' false=>
  rw[hb]at HN;rw[show eG l t g lo gl=false from by simp[eG,hb]];clear hb hg ht
 case' true=>
  rw[hb]at HN;clear hg ht;by_cases h1:2*(g:Int)<l
  focus
   have g1:2*(g:Int)<l:=by omega
   by_cases h2:8≤g
   focus
    have g2:(8:Int)≤(g:Int):=by omega
    by_cases h3:lo=gl
    focus
     subst h3;by_cases h4:lo<5
     focus
      have g4:(lo:Int)<5:=by omega
      rw[show eG l t g lo lo=true from by simp[eG,hb,h1,h2,h4]]
     rotate_left
     focus
      have g4:¬(lo:Int)<5:=by omega
      rw[show eG l t g lo lo=false from by simp[eG,hb,h1,h2,h4]]
    rotate_left 2
    focus
     have g3:¬(lo:Int)=(gl:Int):=by omega
     rw[show eG l t g lo gl=false from by simp[eG,hb,h1,h2,h3]]
   rotate_left 3
   focus
    have g2:¬(8:Int)≤(g:Int):=by omega
    rw[show eG l t g lo gl=false from by simp[eG,hb,h1,h2]]
  rotate_left 4
  focus
   have g1:¬2*(g:Int)<l:=by omega
   rw[show eG l t g lo gl=false from by simp[eG,hb,h1]]
  all_goals
   clear hb
   try clear h1
   try clear h2
   try clear h4
 all_goals
  go_in;go_wp2_with fail;refine(HF.out).mono ?_;rintro y w1 ⟨rfl,rfl⟩;go_wp2_with fail;refine(HN.out).mono ?_;rintro y w1 ⟨rfl,rfl⟩;go_wp2;go_ret
  first|exact⟨rfl,rfl⟩|exact⟨vC (by simp;omega),rfl⟩
theorem Ka (kind g each many:Nat)(hg:Pw g)(he:Pw each)(hk:kind=1∧each=g∧many=1∨kind=2∧each=2*g∧many=1∨kind=3∧each=g∧many=2)(w:World):
  Calls Tryz.prog 170 #[nI kind,nI g] w fun e w'=>e= .returned (.tuple #[nI each,nI many,.nilIface])∧w=w':=by
 have HR:=qd (ou g hg w);have HE:=qd (ou each he w);have h64:=he.le
 have hm:∀q:Nat,((2*q:Nat):Int)=2*(q:Int):=fun q=>by omega
 clear hg he;rcases hk with⟨rfl,rfl,rfl⟩|⟨rfl,rfl,rfl⟩|⟨rfl,rfl,rfl⟩
 all_goals
  try rw[hm]at HE
  try rw[hm]
  clear hm;go_in;go_wp2_with fail;refine(HR.out).mono ?_;rintro y w1 ⟨rfl,rfl⟩;go_wp2_with fail;refine(HE.out).mono ?_;rintro y w1 ⟨rfl,rfl⟩;go_wp2
 ·refine bodyPost_ret (v:= .tuple #[nI each,.int .i64 1,.nilIface]) (by simp[results,Tryz.results170,go_sem]) rfl ⟨rfl,rfl⟩
 ·refine bodyPost_ret (v:= .tuple #[.int .i64 (2*(g:Int)),.int .i64 1,.nilIface]) (by simp[results,Tryz.results170,go_sem]) rfl ⟨rfl,rfl⟩
 ·refine bodyPost_ret (v:= .tuple #[nI each,.int .i64 2,.nilIface]) (by simp[results,Tryz.results170,go_sem]) rfl ⟨rfl,rfl⟩
end Go.Proofs.YtgkeameopnpinaaGreatDoor
