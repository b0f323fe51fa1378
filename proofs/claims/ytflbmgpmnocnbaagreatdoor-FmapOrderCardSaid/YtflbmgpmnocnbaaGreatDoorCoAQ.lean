/- A dual's Step by its contract. -/
import Derived.Test.YtflbmgpmnocnbaaGreatDoorCoAN
import Derived.Test.YtflbmgpmnocnbaaGreatDoorLaneP
import Derived.Test.YtflbmgpmnocnbaaGreatDoorSqT
namespace Go.Proofs.YtflbmgpmnocnbaaGreatDoor
set_option maxRecDepth 100000
set_option maxHeartbeats 8000000
open Go.RowKit AmC
theorem dual_Step_mov {W0:World}{E:Nat→Addr}(db rb cap ob og fb fcap eb vb vcap:Nat)(bbs:List Nat)(bs:List (Nat×Nat))(T:TabM)(Ts:List TabM)(n depth next:Nat)(P:MP)(x:Mtr)(w:World)(h:DuM w db rb cap ob og fb fcap eb vb vcap bbs bs T Ts n depth next)
  (hok:TOk T) (hn:next<T.gs.length) (hfit:Fits bs.length depth Ts (entsG (T.gs.getD next []))) (hM:MetP w P x) (hE:Env W0 E w) (hmf:P.mb∉footM db rb fb eb vb ob og bbs bs) (hb0:W0.heap.size≤P.mb) (hbf:∀q∈footM db rb fb eb vb ob og bbs bs,W0.heap.size≤q):
  Calls Tryz.prog 256 #[dualP db,.pointer (some ⟨P.mb,P.mo,none⟩)] w fun e w'=>e= .returned (.bool true)∧DuM w' db rb cap ob og fb fcap eb vb vcap bbs bs (takeN T next 8) (moveL bs.length depth ((x.add (cU 1) 1).add cV 1,Ts) (entsG (T.gs.getD next []))).2 n depth (next+1)∧MetP w' P (moveL bs.length depth ((x.add (cU 1) 1).add cV 1,Ts) (entsG (T.gs.getD next []))).1∧Mod (P.mb::footM db rb fb eb vb ob og bbs bs) w w':=by
 have hnd:=h.nd;unfold footM at hnd hmf hbf;simp only[List.nodup_cons,List.mem_cons,not_or,List.nodup_append,List.mem_append]at hnd hmf;obtain⟨⟨d1,d2,d3,d4,d5,d6,d7,d8⟩,⟨r1,r2,r3,r4,r5,r6,r7⟩,⟨f1,f2,f3,f4,f5,f6⟩,⟨e1,e2,e3,e4,e5⟩,⟨v1,v2,v3,v4⟩,⟨o1,o2,o3⟩,⟨g1,g2⟩,hn1,hn2,hn3⟩:=hnd;obtain⟨m1,m2,m3,m4,m5,m6,m7,m8,m9⟩:=hmf;have hfl:∀b∈bs,b.1∈flatB bs∧b.2∈flatB bs:=fun b hb=>⟨mem_flatB.2 ⟨b,hb,.inl rfl⟩,mem_flatB.2 ⟨b,hb,.inr rfl⟩⟩
 have hS:=evac_Step (W0:=W0) (E:=E) eb ob og vb vcap depth next bs T Ts P x h.many h.deep w h.ev h.tab hok hn h.tabs hfit hM hE
  (fun b hb=>by
   obtain⟨q1,q2⟩:=hfl b hb;simp only[List.mem_cons,List.not_mem_nil,or_false,not_or]
   exact⟨⟨fun e=>m9 (e▸q1),fun e=>e5 (e▸q1),fun e=>v4 (e▸q1),fun e=>o3 (e▸q1),fun e=>g2 (e▸q1)⟩,⟨fun e=>m9 (e▸q2),fun e=>e5 (e▸q2),fun e=>v4 (e▸q2),fun e=>o3 (e▸q2),fun e=>g2 (e▸q2)⟩⟩)
  (by simp;omega) (by simp;omega) (by simp;omega) hb0 (hbf _ (by simp)) (hbf _ (by simp)) (hbf _ (by simp)) (fun b hb=>⟨hbf _ (by simp[hfl b hb]),hbf _ (by simp[hfl b hb])⟩)
 have bc3:=h.blk.cell 3;have bc4:=h.blk.cell 4;simp only[gl]at bc3 bc4;have HRd:=qd (dual_Ready_yes db fb bs.length fcap w bc3);have HS:=qd hS;have HH:=qd h;unfold dualP at HRd⊢;clear h hS hfit;go_in;go_wp2_with fail;refine(HRd.out).mono ?_;rintro y w1 ⟨rfl,rfl⟩;go_wp2_with fail;refine(HS.out).mono ?_;rintro y w1 ⟨rfl,hEv,hT,hTs,hM1,hm⟩
 have HF:=qd (show DuM w1 db rb cap ob og fb fcap eb vb vcap bbs bs (takeN T next 8) (moveL bs.length depth ((x.add (cU 1) 1).add cV 1,Ts) (entsG (T.gs.getD next []))).2 n depth (next+1)from by
  have hap:∀q,q≠P.mb→q≠eb→q≠ob→q≠og→q∉flatB bs→q∉P.mb::eb::ob::og::flatB bs:=fun q a1 a2 a3 a4 a5=>by simp only[List.mem_cons,not_or];exact⟨a1,a2,a3,a4,a5⟩
  refine⟨HH.out.blk.mod hm (hap _ (by omega) (by omega) (by omega) (by omega) (by assumption)),HH.out.row.mod hm (hap _ (by omega) (by omega) (by omega) (by omega) (by assumption)),fun b hb=>(HH.out.blds b hb).mod hm (hap _ (fun e=>m8 (e▸hb)) (fun e=>e4 (e▸hb)) (fun e=>o2 (e▸hb)) (fun e=>g1 (e▸hb)) (fun hq=>hn3 b hb b hq rfl)),
   HH.out.fresh.mod hm (hap _ (by omega) (by omega) (by omega) (by omega) (by assumption)),hEv,hT,hTs,HH.out.pow,HH.out.many,HH.out.eq,HH.out.deep,HH.out.nd⟩)
 have HM:=qd (hm.more (T:=P.mb::footM db rb fb eb vb ob og bbs bs) (by intro q hq;unfold footM;simp only[List.mem_cons,List.mem_append]at hq⊢;rcases hq with h|h|h|h|h<;>simp[h]));have HM1:=qd hM1;clear hEv hT hTs hM1 hm;go_wp2;go_ret;exact⟨rfl,HF.out,HM1.out,HM.out⟩
section
theorem kOf_full {n k j:Nat}(h:(j+1)*n≤k):kOf n k j=n:=by
 have:=Nat.add_one_mul j n;unfold kOf;omega
theorem kOf_part {n k j:Nat}(h:k<(j+1)*n)(h2:j*n≤k):kOf n k j=k-j*n∧k-j*n<n:=by
 have:=Nat.add_one_mul j n;unfold kOf;omega
theorem kOf_step {n k j:Nat}(h:k<(j+1)*n)(h2:j*n≤k)(i:Nat):kOf n (k+1) i=if i=j then kOf n k j+1 else kOf n k i:=by
 have h3:=Nat.add_one_mul j n;by_cases hij:i=j
 ·subst hij;rw[if_pos rfl];unfold kOf;omega
 ·rw[if_neg hij];unfold kOf;rcases Nat.lt_or_ge i j with hlt|hge
  ·have h4:=Nat.mul_le_mul_right n (show i+1≤j from hlt);have h5:=Nat.add_one_mul i n;omega
  ·have h4:=Nat.mul_le_mul_right n (show j+1≤i by omega);omega
section
variable {w w' : World} {db rb cap ob og : Nat} {bl : List (Nat × Nat × Nat)} {T : TabM} {n depth k j mb : Nat}
theorem ap_of {b c:Nat×Nat×Nat}(hnd:(footB db rb ob og bl).Nodup){i:Nat}(hc:bl[i]?=some c)(hb:bl[j]?=some b)(hne:i≠j):∀q∈blBlocks c,q∉blBlocks b:=by
 unfold footB at hnd;simp only[List.nodup_cons]at hnd;exact nodup_flat (f:=blBlocks) hnd.2.2.2.2 hc hb hne
theorem DuB.stepped (h:DuB w db rb cap ob og bl T n depth k){b:Nat×Nat×Nat}(hb:bl[j]?=some b)(hk1:k<(j+1)*n)(hk2:j*n≤k)(hB:BldAt w' b.1 b.2.1 b.2.2 n (kOf n k j+1))(hm:Mod [mb,b.1,b.2.1,b.2.2] w w')(hmb:mb∉footB db rb ob og bl):
  Blk w' db 277 #[.pointer (some ⟨ob,0,none⟩),.int .i64 (depth:Int),.slice (some ⟨rb,0,none⟩) bl.length cap,.slice none 0 0,.pointer none,.bool false]∧RowAt w' rb (bl.map fun b=>b.1)∧TabAt w' ob og T∧∀(i:Nat) (c:Nat×Nat×Nat),bl[i]?=some c→BldAt w' c.1 c.2.1 c.2.2 n (kOf n (k+1) i):=by
 have hnd:=h.nd;unfold footB at hnd;simp only[List.nodup_cons,List.mem_cons,not_or]at hnd;obtain⟨⟨d1,d2,d3,d4⟩,⟨r1,r2,r3⟩,⟨o1,o2⟩,g1,hn⟩:=hnd;have hbm:=List.mem_of_getElem? hb;have hin:∀q∈blBlocks b,q∈bl.flatMap fun b=> [b.1,b.2.1,b.2.2]:=fun q hq=>List.mem_flatMap.2 ⟨b,hbm,hq⟩
 have hS:∀q,q≠mb→q∉(bl.flatMap fun b=> [b.1,b.2.1,b.2.2])→q∉[mb,b.1,b.2.1,b.2.2]:=fun q h1 h2 h3=>by
  rcases List.mem_cons.1 h3 with e|e
  ·exact h1 e
  ·exact h2 (hin q e)
 have hne:∀q∈footB db rb ob og bl,q≠mb:=fun q hq e=>hmb (e▸hq);refine⟨h.blk.mod hm (hS _ (hne _ (by simp[footB])) d4),h.row.mod hm (hS _ (hne _ (by simp[footB])) r3),h.tab.mod hm (hS _ (hne _ (by simp[footB])) o2) (hS _ (hne _ (by simp[footB])) g1),fun i c hc=> ?_⟩;rw[kOf_step hk1 hk2];by_cases hij:i=j
 ·subst hij;rw[hb]at hc;cases hc;rw[if_pos rfl];exact hB
 ·rw[if_neg hij];have ha:=ap_of h.nd hc hb hij;obtain⟨m1,m2,m3⟩:=mem_footB (db:=db) (rb:=rb) (ob:=ob) (og:=og) (List.mem_of_getElem? hc)
  have hz:∀q∈blBlocks c,q≠mb→q∉[mb,b.1,b.2.1,b.2.2]:=fun q h1 h2 h3=>by
   rcases List.mem_cons.1 h3 with e|e
   ·exact h2 e
   ·exact ha q h1 e
  exact(h.blds i c hc).mod hm (hz _ (by simp[blBlocks]) (hne _ m1)) (hz _ (by simp[blBlocks]) (hne _ m2)) (hz _ (by simp[blBlocks]) (hne _ m3))
end
theorem dual_Step_bld {W0:World}{E:Nat→Addr}(db rb cap ob og:Nat)(bl:List (Nat×Nat×Nat))(T:TabM)(n depth k:Nat)(P:MP)(x:Mtr)(w:World)(h:DuB w db rb cap ob og bl T n depth k)
  (hM:MetP w P x) (hE:Env W0 E w) (hmF:P.mb∉footB db rb ob og bl) (hb0:W0.heap.size≤P.mb) (hbF:∀q∈footB db rb ob og bl,W0.heap.size≤q):
  Calls Tryz.prog 256 #[dualP db,.pointer (some ⟨P.mb,P.mo,none⟩)] w fun e w'=>e= .returned (.bool true)∧MetP w' P ((x.add cV 1).add (cU 1) 1)∧Mod (P.mb::footB db rb ob og bl) w w'∧(if k+1=n*bl.length then∃fb fcap eb vb vcap,DuM w' db rb cap ob og fb fcap eb vb vcap (bl.map fun b=>b.1) (blTabs bl) T (List.replicate bl.length (prepT n n)) n depth 0∧w.heap.size≤fb∧w.heap.size≤eb∧w.heap.size≤vb else DuB w' db rb cap ob og bl T n depth (k+1)):=by
 have hml:=hM.lt;have HH:=qd h;have hle:=h.pow.le;have hpos:=h.pow.pos;have hklt:=h.lt;obtain⟨n1,n2⟩:=h.many;have bc2:=h.blk.cell 2;have bc3:=h.blk.cell 3;simp only[gl]at bc2 bc3;have HRd:=qd (dual_Ready_no db w bc3);have HM:=qd hM;have HE:=qd hE;unfold dualP at HRd⊢;clear h hM hE;go_in;go_wp2_with fail;refine(HRd.out).mono ?_;rintro y w1 ⟨rfl,rfl⟩;go_wp2;clear bc2 bc3 HRd;go_loopw [4,5,6,20] (fun _ _ _ i wr=>∃j:Nat,j≤bl.length∧i= .int .i64 j∧j*n≤k∧Below w.heap.size w wr) (fun _ _ _ i _=>bl.length-(intOf i).toNat)
 case atStart=>exact⟨0,by omega,rfl,by omega,Below.refl _ _⟩
 case round=>
  obtain⟨j,hj,rfl,hjk,hb⟩:=hrel;by_cases hlt:j<bl.length
  ·have hlt':(j:Int)<(bl.length:Int):=by omega
   have hj0:(0:Int)≤(j:Int):=by omega
   obtain⟨b,hbi⟩:∃b,bl[j]?=some b:=⟨_,List.getElem?_eq_getElem hlt⟩;have hbm:=List.mem_of_getElem? hbi;have hD:=HH.out.mod (Mod.of_below hb []) (by simp);have hrw:=hD.row.at_ j b.1 (by rw[List.getElem?_map,hbi];rfl);have hbld:=hD.blds j b hbi;by_cases hfull:(j+1)*n≤k
   ·rw[kOf_full hfull]at hbld;have HC:=qd (build_Step_no b.1 b.2.1 b.2.2 n (.pointer (some ⟨P.mb,P.mo,none⟩)) wr hbld);have HB:=qd hb;unfold bldP at HC;clear hbi hD hbld hb;go_wp2_with fail;refine(HC.out).mono ?_;rintro y w2 ⟨rfl,hb2⟩;have HB2:=qd (HB.out.trans (hb2.mono HB.out.size));clear hb2;go_wp2;go_roundw
    case rel=>exact⟨j+1,by omega,by go_num,hfull,HB2.out⟩
    case measure=>simp[intOf];omega
   ·have hpart:k<(j+1)*n:=by omega
    obtain⟨hko,hkn⟩:=kOf_part hpart hjk;have hmul:=Nat.add_one_mul j n;have hbf:=hbF;have hmf:=hmF;obtain⟨q1,q2,q3⟩:=mem_footB (db:=db) (rb:=rb) (ob:=ob) (og:=og) hbm;have hne:∀q∈footB db rb ob og bl,P.mb≠q:=fun q hq e=>hmf (e▸hq);have HC:=qd (build_Step (W0:=W0) (E:=E) b.1 b.2.1 b.2.2 n (kOf n k j) P x (by omega) wr hbld (HM.out.below hb) (HE.out.next hb) (hne _ q1) (hne _ q2) (hne _ q3) hb0 (hbf _ q1) (hbf _ q2) (hbf _ q3));have HD:=qd hD;have HB:=qd hb;have HBi:=qd hbi;unfold bldP at HC;clear hbi hD hbld hb;go_wp2_with fail;refine(HC.out).mono ?_;rintro y w2 ⟨rfl,hB2,hM2,hm⟩;have hpc:=HD.out.stepped HBi.out hpart hjk hB2 hm hmf;have HPc:=qd hpc;have HM2:=qd hM2;have HB2:=qd hB2;have hmt:Mod (P.mb::footB db rb ob og bl) w w2:=(Mod.of_below HB.out _).then (hm.more (by intro q hq;simp only[List.mem_cons,List.not_mem_nil,or_false]at hq⊢;rcases hq with rfl|rfl|rfl|rfl;exact .inl rfl;exact .inr q1;exact .inr q2;exact .inr q3));have HMt:=qd hmt;have bc2:=hpc.1.cell 2;simp only[gl]at bc2;have hnl:n*bl.length=bl.length*n:=Nat.mul_comm _ _;clear hpc hmt hM2 hm hB2;by_cases hlast:j+1=bl.length
    ·have hjl:(j:Int)=(bl.length:Int)-1:=by omega
     have hlm:bl.length*n=(j+1)*n:=by rw[hlast]
     have HLf:=qd (build_Left b.1 n (kOf n k j+1) _ w2 HB2.out.le hle HB2.out.blk);unfold bldP at HLf;obtain⟨dl,hdl⟩:∃dl,dl=n-(kOf n k j+1):=⟨_,rfl⟩;rw[←hdl]at HLf;by_cases hall:k+1=n*bl.length
     ·have hd0:dl=0:=by omega
      have hbg:∀(i:Nat) (q:Nat×Nat×Nat),bl[i]?=some q→BldAt w2 q.1 q.2.1 q.2.2 n n:=fun i q hq=>by
       have hi:=(List.getElem?_eq_some_iff.1 hq).1;have h1:=HPc.out.2.2.2 i q hq;have h2:=Nat.mul_le_mul_right n (show i+1≤bl.length by omega)
       rwa [kOf_full (by omega)]at h1
      have hBg:BgAt w2 bl n 0:=⟨fun i q hq _=>hbg i q hq,fun i q _ hi=>by omega,fun i q hq=>(hbg i q hq).tab⟩;have HBg:=qd (fun V (hV:Mod [] w2 V)=>dual_begin db rb cap ob og bl T n depth ⟨n1,n2⟩ HH.out.deep HH.out.pow HH.out.nd V (HPc.out.1.mod hV (by simp)) (HPc.out.2.1.mod hV (by simp)) (HPc.out.2.2.1.mod hV (by simp) (by simp)) (hBg.mod hV (by simp)));unfold dualP at HBg;rw[hd0]at HLf;clear hbg hBg hdl hd0;go_wp2_with fail;refine(HLf.out).mono ?_;rintro y w3 ⟨rfl,hw3⟩;have hm3:Mod [] w2 w3:=hw3▸Mod.drewN [] w2 1;have HB3:=qd (HBg.out w3 hm3);have HM3:=qd (HM2.out.mod hm3 (by simp));have HMt3:=qd (HMt.out.then (hm3.more (by simp)));have HS3:=qd hm3.size;have HS4:=qd HMt.out.size;clear hw3 hm3;go_wp2_with fail;refine(HB3.out).mono ?_;rintro y w4 ⟨rfl,fb,fcap,eb,vb,hrest⟩;have HRs:=qd hrest;clear hrest;go_wp2;go_ret;obtain⟨vcap,hDM,hfb,heb,hvb,hm4⟩:=HRs.out;have hs3:=HS3.out;have hs4:=HS4.out;refine⟨rfl,HM3.out.mod hm4 hmf,HMt3.out.then (hm4.more (fun q hq=>List.mem_cons_of_mem _ hq)), ?_⟩
      try rw[if_pos hall]
      exact⟨fb,fcap,eb,vb,by first|exact⟨vcap,hDM,by omega,by omega,by omega⟩|exact⟨⟨vcap,hDM⟩,by omega,by omega,by omega⟩⟩
     ·have hd0:¬(dl:Int)=0:=by omega
      have hd1:¬dl=0:=by omega
      clear hdl;go_wp2_with fail;refine(HLf.out).mono ?_;rintro y w3 ⟨rfl,hw3⟩;have HW3:=qd (show Mod [] w2 w3 from hw3▸Mod.drewN [] w2 1);clear hw3;go_wp2;go_ret;refine⟨rfl,HM2.out.mod HW3.out (by simp),HMt.out.then (HW3.out.more (by simp)), ?_⟩
      try rw[if_neg hall]
      exact⟨HPc.out.1.mod HW3.out (by simp),HPc.out.2.1.mod HW3.out (by simp),fun i q hq=>(HPc.out.2.2.2 i q hq).mod HW3.out (by simp) (by simp) (by simp),HPc.out.2.2.1.mod HW3.out (by simp) (by simp),HH.out.pow,HH.out.many,by omega,HH.out.deep,HH.out.nd⟩
    ·have hjl:¬(j:Int)=(bl.length:Int)-1:=by omega
     have h2:=Nat.mul_le_mul_right n (show j+1+1≤bl.length by omega);have h3:=Nat.add_one_mul (j+1) n
     have hall:¬k+1=n*bl.length:=by omega
     go_wp2;go_ret;refine⟨rfl,HM2.out,HMt.out, ?_⟩
     try rw[if_neg hall]
     exact⟨HPc.out.1,HPc.out.2.1,HPc.out.2.2.2,HPc.out.2.2.1,HH.out.pow,HH.out.many,by omega,HH.out.deep,HH.out.nd⟩
  ·exfalso
   obtain rfl:j=bl.length:=by omega
   have:=Nat.mul_comm bl.length n;omega
end
section
variable {w w' wr : World} {base db depth g n ob og : Nat} {e t : TypeId} {cs : Array Value} {v : Value} {xs : List Value} {T : TabM} {bl : List (Nat × Nat × Nat)}
theorem info_pbld:(Tryz.prog.info? 287).map (fun i=>(i.zero,i.size,i.bytes))=some (some (.pointer none),1,8):=by kernel_rfl
theorem slty_pbld:SlTy Tryz.prog 273 287 1 8:=slTy Tryz.underlying273 info_pbld rfl (by decide) (by decide)
structure NwAt (w wr:World)(db ob og:Nat)(T:TabM)(n depth:Nat)(bl:List (Nat×Nat×Nat))(v:Value):Prop where
 blk:Blk wr db 277 #[.pointer (some ⟨ob,0,none⟩),.int .i64 (depth:Int),v,.slice none 0 0,.pointer none,.bool false]
 own:wr.ownsRow w.heap.size 287 1 v bl.length (ptrs (bl.map fun b=>b.1))
 blds:∀(i:Nat) (b:Nat×Nat×Nat),bl[i]?=some b→BldAt wr b.1 b.2.1 b.2.2 n 0
 tab:TabAt wr ob og T
 nd:(db::bl.flatMap blBlocks).Nodup
 low:∀q∈db::bl.flatMap blBlocks,w.heap.size≤q∧q<wr.heap.size
 old:ob<w.heap.size∧og<w.heap.size
 below:Below w.heap.size w wr
theorem blk_type {t':TypeId}{cs':Array Value}{z:Nat×Nat}(h:Blk w g t cs)(h':w.heap[g]?=some (.cells cs' t' z)):t=t':=by
 have h0:w.heap[g]?=_:=h;rw[h0]at h';cases h';rfl
def DuNew (w w':World)(db ob og:Nat)(T:TabM)(n m depth:Nat):Prop:=
 ∃rb cap bl,w.heap.size≤db∧w.heap.size≤rb∧(∀q∈bl.flatMap blBlocks,w.heap.size≤q)∧bl.length=m∧DuB w' db rb cap ob og bl T n depth 0
theorem own_apt (h:w.ownsRow base e 1 v n xs)(hB:Blk w g t cs)(ht:t≠e):some g≠v.ownBlock:=by
 rcases h.2 with⟨rfl,_⟩|⟨q,c,cur,rfl,_,hg,_⟩
 ·simp[Value.ownBlock]
 ·intro hq;simp[Value.ownBlock]at hq;subst hq;exact ht (blk_type hB hg)
theorem own_keep (h:w.ownsRow base e 1 v n xs)(hg:w.grownBy w' v.ownBlock)(hB:Blk w g t cs)(ht:t≠e):Blk w' g t cs:=
 (hg.block g hB.lt (own_apt h hB ht)).trans hB
theorem own_far {S:List Nat}(h:w.ownsRow base e 1 v n xs)(hm:Mod S w w')(hS:∀k,v.ownBlock=some k→k∉S):w'.ownsRow base e 1 v n xs:=by
 refine⟨h.1, ?_⟩;rcases h.2 with hn|⟨g,cap,cur,hv,hb,hg,rest⟩
 ·exact .inl hn
 ·exact .inr ⟨g,cap,cur,hv,hb,(hm.block g (Array.getElem?_eq_some_iff.1 hg).1 (hS g (by rw[hv];rfl))).trans hg,rest⟩
theorem NwAt.next {w2 w4:World}{bb tb gb:Nat}{l:Nat}{v4:Value}(h:NwAt w wr db ob og T n depth bl v)(hl:bl.length+1=l)(hb:Below wr.heap.size wr w2)(hB:BldAt w2 bb tb gb n 0)(h1:wr.heap.size≤bb)(h2:wr.heap.size≤tb)(h3:wr.heap.size≤gb)(hown:w4.ownsRow w.heap.size 287 1 v4 l (ptrs (bl.map fun b=>b.1)++[.pointer (some ⟨bb,0,none⟩)]))(hg:Grew w2 w.heap.size v w4 v4):NwAt w (w4.setCell ⟨db,2,none⟩ v4) db ob og T n depth (bl++[(bb,tb,gb)]) v4:=by
 subst hl;have hO2:=own_below h.own hb (Nat.le_refl _);have hD2:=h.blk.mod (Mod.of_below hb []) (by simp);have hD4:=own_keep hO2 hg.by_ hD2 (by decide)
 have hK:∀q1 q2 q3 k,BldAt w2 q1 q2 q3 n k→BldAt w4 q1 q2 q3 n k:=fun q1 q2 q3 k hq=>
  ⟨own_keep hO2 hg.by_ hq.blk (by decide),⟨hq.tab.wide,own_keep hO2 hg.by_ hq.tab.tab (by decide),own_keep hO2 hg.by_ hq.tab.grp (by decide),hq.tab.ne⟩,hq.le,hq.pow,hq.ne1,hq.ne2⟩
 have hm:Mod [db] w4 (w4.setCell ⟨db,2,none⟩ v4):=(Mod.refl [db] w4).sl 2 v4;have hlow:=h.low;have hsz:=hb.size;have hsz4:=hg.size;have hwl:=h.below.size;have hnd:=List.nodup_cons.1 h.nd;have hBl:=hB.lt;have hBt:=hB.ltT;have hBg:=hB.ltG;have hdl:=hlow db (by simp)
 have hf:(bl++[(bb,tb,gb)]).flatMap blBlocks=bl.flatMap blBlocks++[bb,tb,gb]:=by simp[blBlocks]
 have hq:∀q∈bl.flatMap blBlocks,q≠db:=fun q hq e=>hnd.1 (e▸hq);have hbq:∀q1 q2 q3 k,BldAt w4 q1 q2 q3 n k→q1≠db→q2≠db→q3≠db→BldAt (w4.setCell ⟨db,2,none⟩ v4) q1 q2 q3 n k:=fun q1 q2 q3 k hh a1 a2 a3=>hh.mod hm (by simpa using a1) (by simpa using a2) (by simpa using a3);refine⟨by simpa using hD4.set_ 2 v4, ?_,fun i b hi=> ?_, ?_, ?_,fun q hq2=> ?_,h.old, ?_⟩
 ·have hp:ptrs ((bl++[(bb,tb,gb)]).map fun b=>b.1)=ptrs (bl.map fun b=>b.1)++[.pointer (some ⟨bb,0,none⟩)]:=by simp[ptrs]
  rw[hp,List.length_append];refine own_far hown hm fun k hk=> ?_;simp only[List.mem_singleton];rintro rfl;exact own_apt hown hD4 (by decide) hk.symm
 ·by_cases hlt:i<bl.length
  ·rw[List.getElem?_append_left hlt]at hi;have hbm:=List.mem_of_getElem? hi;have hin:∀q∈blBlocks b,q∈bl.flatMap blBlocks:=fun q hq=>List.mem_flatMap.2 ⟨b,hbm,hq⟩;exact hbq _ _ _ _ (hK _ _ _ _ ((h.blds i b hi).mod (Mod.of_below hb []) (by simp) (by simp) (by simp))) (hq _ (hin _ (by simp[blBlocks]))) (hq _ (hin _ (by simp[blBlocks]))) (hq _ (hin _ (by simp[blBlocks])))
  ·rw[List.getElem?_append_right (by omega)]at hi
   have h0:i-bl.length=0:=by
    rcases Nat.eq_zero_or_pos (i-bl.length)with e|e
    ·exact e
    ·rw[List.getElem?_eq_none (by simp;omega)]at hi;cases hi
   rw[h0]at hi;simp at hi;subst hi;exact hbq bb tb gb 0 (hK bb tb gb 0 hB) (by omega) (by omega) (by omega)
 ·have hT2:=h.tab.below hb;have ho:=h.old;exact⟨hT2.wide,(own_keep hO2 hg.by_ hT2.tab (by decide)).mod hm (by simp;omega),(own_keep hO2 hg.by_ hT2.grp (by decide)).mod hm (by simp;omega),hT2.ne⟩
 ·rw[hf,←List.cons_append,List.nodup_append];refine⟨h.nd, ?_,fun a ha b hb2=> ?_⟩
  ·have:=hB.ne1;have:=hB.ne2;have:=hB.tab.ne;simp;omega
  ·have:=hlow a ha;simp at hb2;omega
 ·rw[hf,←List.cons_append,List.mem_append]at hq2
  have hs:(w4.setCell ⟨db,2,none⟩ v4).heap.size=w4.heap.size:=by simp
  rcases hq2 with hq2|hq2
  ·have:=hlow q hq2;omega
  ·simp at hq2;omega
 ·have hb4:Below w.heap.size w w4:=(h.below.trans (hb.mono hwl)).trans hg.below;exact hb4.trans (hm.below (by intro k hk;simp at hk;omega) hb4.size)
theorem NwAt.done (h:NwAt w wr db ob og T n depth bl v)(hn:Pw n)(hm:1≤bl.length∧bl.length≤2)(hd:depth≤15):
  ∃rb cap,DuB wr db rb cap ob og bl T n depth 0∧w.heap.size≤rb:=by
 obtain⟨A,cap,rfl⟩:=own_form h.own;obtain⟨rb,rfl,hrb,hrow,_⟩:=RowAt.of_own h.own (by omega)
 obtain⟨g,cap',cur,hv,_,hg,_⟩:∃g cap' cur,(Value.slice (some ⟨rb,0,none⟩) bl.length cap)= .slice (some ⟨g,0,none⟩) bl.length cap'∧w.heap.size≤g∧wr.heap[g]?=some (.cells cur 287 (0,0))∧True:=by
  rcases h.own.2 with⟨he,_⟩|⟨g,c,cur,hv,hb,hg,_⟩
  ·cases he
  ·exact⟨g,c,cur,hv,hb,hg,trivial⟩
 cases hv;have hpos:=hn.pos;have hnd:=List.nodup_cons.1 h.nd;have hl0:=h.low db (by simp)
 have hrq:∀q∈bl.flatMap blBlocks,rb≠q:=fun q hq e=>by
  subst e;obtain⟨b,hb,hqb⟩:=List.mem_flatMap.1 hq;obtain⟨i,hi⟩:=List.getElem?_of_mem hb;have hB:=h.blds i b hi;simp only[blBlocks,List.mem_cons,List.not_mem_nil,or_false]at hqb;rcases hqb with rfl|rfl|rfl
  ·exact absurd (blk_type hB.blk hg) (by decide)
  ·exact absurd (blk_type hB.tab.tab hg) (by decide)
  ·exact absurd (blk_type hB.tab.grp hg) (by decide)
 have hrd:rb≠db:=fun e=>by subst e;exact absurd (blk_type h.blk hg) (by decide)
 have hold:=h.old
 have hoq:∀q,q<w.heap.size→q∉bl.flatMap blBlocks:=fun q hq hm=>by
  have:=(h.low q (List.mem_cons_of_mem _ hm)).1;omega
 have hne:=h.tab.ne;refine⟨rb,cap,⟨h.blk,hrow,fun i b hb=> ?_,h.tab,hn,hm,Nat.mul_pos hpos (by omega),hd, ?_⟩,hrb⟩
 ·have:kOf n 0 i=0:=by unfold kOf;omega
  rw[this];exact h.blds i b hb
 ·unfold footB;show(db::rb::ob::og::bl.flatMap blBlocks).Nodup;simp only[List.nodup_cons,List.mem_cons,not_or];exact⟨⟨by omega,by omega,by omega,hnd.1⟩,⟨by omega,by omega,fun hq=>hrq rb hq rfl⟩,⟨hne,hoq _ hold.1⟩,hoq _ hold.2,hnd.2⟩
theorem dual_New (ob og n m depth:Nat)(dep:Int)(T:TabM)(hn:Pw n)(hcase:m=1∧dep= -1∧depth=0∨m=2∧dep=(depth:Int)∧depth≤15)(w:World)(h:TabAt w ob og T):
  Calls Tryz.prog 138 #[.pointer (some ⟨ob,0,none⟩),.int .i64 (n:Int),.int .i64 dep] w fun e w'=>∃db,e= .returned (.tuple #[dualP db,.nilIface])∧DuNew w w' db ob og T n m depth∧Below w.heap.size w w':=by
 have htl:=h.ltT;have hgl:=h.ltG
 have hdep:¬dep>15:=by omega
 have HBn:=qd (fun V:World=>build_New n hn V);unfold bldP at HBn;unfold dualP;have HHh:=qd h
 have hdd:(if dep<0 then 0 else dep)=(depth:Int):=by split<;>omega
 clear h;go_in;go_upto_region 6 with fail;refine nameW (F:=fun v=>NwAt w v w.heap.size ob og T n depth [] (.slice none 0 0)) ⟨by rw[←hdd];exact Blk.new w _ _,World.ownsRow_nil _ _ _ _,fun i b hb=>by simp at hb,HHh.out.below ((Below.refl _ _).alloc (Nat.le_refl _) _),by simp,by simp,⟨htl,hgl⟩,(Below.refl _ _).alloc (Nat.le_refl _) _⟩ ?_;rintro w1 hN0;obtain⟨db,hdb⟩:∃db,db=w.heap.size:=⟨_,rfl⟩;rw[←hdb]at hN0⊢
 replace hdb:w.heap.size≤db:=by omega
 have HN0:=qd hN0;clear hN0;go_wp2;go_loopw [6,7,9,10,11] (fun _ _ i _ _ wr=>∃(j:Nat) (bl:List (Nat×Nat×Nat)) (v:Value),j≤m∧i= .int .i64 j∧bl.length=j∧NwAt w wr db ob og T n depth bl v) (fun _ _ i _ _ _=>m-(intOf i).toNat)
 case atStart=>exact⟨0,[],_,by omega,rfl,rfl,HN0.out⟩
 case round=>
  obtain⟨j,bl,v,hj,rfl,hbl,hN⟩:=hrel
  have hm2:m≤2:=by omega
  by_cases hlt:j<m
  ·have HN:=qd hN;have hwl:=hN.below.size;clear hN
   have hcond:j=0∨(j=1∧0≤dep):=by omega
   have HB1:=qd (HBn.out wr);rcases hcond with rfl|⟨rfl,hdp⟩
   ·go_wp2_with fail;refine(HB1.out).mono ?_;rintro y w2 ⟨bb,tb,gb,hbb,htb,hgb,rfl,hB,hb⟩;have hb2:Below w.heap.size w w2:=HN.out.below.trans (hb.mono hwl);have hdl:db<wr.heap.size:=(HN.out.low db (by simp)).2;have hD2:=HN.out.blk.mod (Mod.of_below hb []) (by simp);have hO2:=own_below HN.out.own hb (Nat.le_refl _);have dc2:=hD2.cell 2;simp only[gl]at dc2;have df2:=hD2.frozen 2;have hbsz:=hb.size
    have hdl2:db<w2.heap.size:=by omega
    have HD2:=qd hD2;have HB2:=qd hB;have HO2:=qd hO2;have Hb:=qd hb;have Hb2:=qd hb2;clear hD2 hB hO2 hb hb2;go_wp2_with (at_builtin;refine wpList_append1 rfl rfl slty_pbld HO2.out rfl rfl (by simp) rfl rfl (by omega) (by omega) ?_;intro v4 w4 hown4 hg4;rw[hbl]at hown4;have HNx:=qd (HN.out.next (by rw[hbl]) Hb.out HB2.out hbb htb hgb hown4 hg4);have hD4:=own_keep HO2.out hg4.by_ HD2.out (by decide);have dc4:=hD4.cell 2;have df4:=hD4.frozen 2;obtain⟨A4,c4,rfl⟩:=own_form hown4;simp only[gl]at dc4;clear hD4 hown4 hg4);go_roundw
    case rel=>exact⟨0+1,bl++[(bb,tb,gb)],_,by omega,by go_num,by simp[hbl],HNx.out⟩
    case measure=>simp[intOf];omega
   ·go_wp2_with fail;refine(HB1.out).mono ?_;rintro y w2 ⟨bb,tb,gb,hbb,htb,hgb,rfl,hB,hb⟩;have hb2:Below w.heap.size w w2:=HN.out.below.trans (hb.mono hwl);have hdl:db<wr.heap.size:=(HN.out.low db (by simp)).2;have hD2:=HN.out.blk.mod (Mod.of_below hb []) (by simp);have hO2:=own_below HN.out.own hb (Nat.le_refl _);have dc2:=hD2.cell 2;simp only[gl]at dc2;have df2:=hD2.frozen 2;have hbsz:=hb.size
    have hdl2:db<w2.heap.size:=by omega
    have HD2:=qd hD2;have HB2:=qd hB;have HO2:=qd hO2;have Hb:=qd hb;have Hb2:=qd hb2;clear hD2 hB hO2 hb hb2;go_wp2_with (at_builtin;refine wpList_append1 rfl rfl slty_pbld HO2.out rfl rfl (by simp) rfl rfl (by omega) (by omega) ?_;intro v4 w4 hown4 hg4;rw[hbl]at hown4;have HNx:=qd (HN.out.next (by rw[hbl]) Hb.out HB2.out hbb htb hgb hown4 hg4);have hD4:=own_keep HO2.out hg4.by_ HD2.out (by decide);have dc4:=hD4.cell 2;have df4:=hD4.frozen 2;obtain⟨A4,c4,rfl⟩:=own_form hown4;simp only[gl]at dc4;clear hD4 hown4 hg4);go_roundw
    case rel=>exact⟨1+1,bl++[(bb,tb,gb)],_,by omega,by go_num,by simp[hbl],HNx.out⟩
    case measure=>simp[intOf];omega
  ·obtain rfl:j=m:=by omega
   obtain⟨rb,cap,hDu,hrb⟩:=hN.done hn (by omega) (by omega);have HDu:=qd hDu;have HN:=qd hN;clear hDu hN
   have hc0:¬(j:Int)=0:=by omega
   have hc1:(j:Int)=1→¬0≤dep:=by omega
   rcases hcase with⟨rfl,rfl,rfl⟩|⟨rfl,rfl,hd15⟩
   ·go_wp2;refine bodyPost_ret (v:= .tuple #[.pointer (some ⟨db,0,none⟩),.nilIface]) (by simp[results,Tryz.results138,go_sem]) rfl ?_;have hlow:=HN.out.low;exact⟨db,rfl,⟨rb,cap,bl,hdb,hrb,fun q hq=>(hlow q (List.mem_cons_of_mem _ hq)).1,hbl,HDu.out⟩,HN.out.below⟩
   ·go_wp2;refine bodyPost_ret (v:= .tuple #[.pointer (some ⟨db,0,none⟩),.nilIface]) (by simp[results,Tryz.results138,go_sem]) rfl ?_;have hlow:=HN.out.low;exact⟨db,rfl,⟨rb,cap,bl,hdb,hrb,fun q hq=>(hlow q (List.mem_cons_of_mem _ hq)).1,hbl,HDu.out⟩,HN.out.below⟩
theorem dual_Take (db rb cap ob og fb fcap eb vb vcap:Nat)(bbs:List Nat)(bs:List (Nat×Nat))(T:TabM)(Ts:List TabM)(n depth next:Nat)(w:World)(h:DuM w db rb cap ob og fb fcap eb vb vcap bbs bs T Ts n depth next)(hg64:T.gs.length≤64)(hnx:next=T.gs.length):
  Calls Tryz.prog 196 #[dualP db] w fun e w'=>∃rb' c',e= .returned (.tuple #[.slice (some ⟨rb',0,none⟩) bs.length c',.nilIface])∧RowAt w' rb' (bs.map Prod.fst)∧w.heap.size≤rb'∧TabsAt w' bs Ts∧Mod [db] w w':=by
 have hnd:=h.nd;unfold footM at hnd;simp only[List.nodup_cons,List.mem_cons,not_or,List.mem_append]at hnd;obtain⟨⟨d1,d2,d3,d4,d5,d6,d7,d8⟩,_⟩:=hnd;obtain⟨n1,n2⟩:=h.many
 have hbs:∀b∈bs,b.1∉[db]∧b.2∉[db]:=fun b hb=>by
  simp only[List.mem_singleton];exact⟨fun e=>d8 (e▸mem_flatB.2 ⟨b,hb,.inl rfl⟩),fun e=>d8 (e▸mem_flatB.2 ⟨b,hb,.inr rfl⟩)⟩
 have HL:=qd (dual_Left_mov db rb cap ob og fb fcap eb vb vcap bbs bs T Ts n depth next w h hg64 (by omega))
 have hz:T.gs.length-next=0:=by omega
 rw[hz]at HL;unfold dualP at HL⊢;have hfl:(bs.map Prod.fst).length=bs.length:=List.length_map ..;have HD:=qd (h.blk);have HF:=qd (h.fresh);have HTs:=qd (h.tabs);have Hmod:=qd (Mod.refl [db] w);clear h hz;go_in;go_wp2_with fail;refine(HL.out).mono ?_;rintro y w1 ⟨rfl,hw1⟩;have hm:Mod [] w w1:=hw1▸Mod.drewN [] w 1;clear hw1 HL;replace HD:=qM hm HD;replace HF:=qM hm HF;replace HTs:=qd (HTs.out.mod hm (by simp));replace Hmod:=qd (Hmod.out.then (hm.more (by simp)));clear hm;have dc:=HD.out.c6;have df:=HD.out.f6;go_upto_region 4 with fail;have q1:=qJ HD.out.lt (qJ HF.out.lt (qJ HD.out.lt HF.out.lt));refine qS1 HD.out ?_;rintro w2 ⟨hnew,hm⟩;simp only[pt]at hnew;clear dc df;replace HF:=qM hm HF;replace HTs:=qd (HTs.out.mod hm hbs);have z5:=(hm).size;replace Hmod:=qU Hmod hm;replace HD:=qd hnew;clear hnew hm;have dc:=HD.out.c6;have q6:=qJ HD.out.lt HF.out.lt;have HRd:=qd HF.out.reads;rw[hfl]at HRd;go_wp2_with (at_builtin;refine wpList_app rfl rfl slty_ptab (World.ownsRow_lit w2 #[] 0 (Nat.le_refl _) (by simp) rfl) rfl rfl (HRd.out.alloc (Nat.le_refl _) _) (ptrs_all _) (by omega) (by simp) ?_;intro v4 w4 hown4 hg4;rw[Nat.zero_add]at hown4;obtain⟨A4,c4,rfl⟩:=own_form hown4;have hb4:Below w2.heap.size w2 w4:=((Below.refl _ _).alloc (Nat.le_refl _) _).trans hg4.below);obtain⟨rb',rfl,hrb',hrow,_⟩:=RowAt.of_own (show w4.ownsRow w2.heap.size 146 1 (.slice A4 bs.length c4) bs.length (ptrs (bs.map Prod.fst))from by simpa using hown4) (by omega);have hsz:=Hmod.out.size
 refine bodyPost_ret (v:= .tuple #[.slice (some ⟨rb',0,none⟩) bs.length c4,.nilIface]) (by simp[results,Tryz.results196,go_sem]) rfl ⟨rb',⟨c4,rfl⟩,hrow,by omega,HTs.out.mod (Mod.of_below hb4 []) (by simp),Hmod.out.then (Mod.of_below hb4 _)⟩
end
end Go.Proofs.YtflbmgpmnocnbaaGreatDoor
