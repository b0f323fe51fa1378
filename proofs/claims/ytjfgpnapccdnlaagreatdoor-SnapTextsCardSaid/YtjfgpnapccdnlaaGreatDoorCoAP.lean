/- A dual's begin by its contract. -/
import Derived.Test.YtjfgpnapccdnlaaGreatDoorCoAM
import Derived.Test.YtjfgpnapccdnlaaGreatDoorKit2
import Derived.Test.YtjfgpnapccdnlaaGreatDoorSqT
import Derived.Test.YtjfgpnapccdnlaaGreatDoorBuilder
namespace Go.Proofs.YtjfgpnapccdnlaaGreatDoor
set_option maxRecDepth 100000
set_option maxHeartbeats 8000000
open Go.RowKit dF
section
variable {w w' : World} {α : Type} {j n : Nat} {bl : List (Nat × Nat × Nat)}
theorem lS {B:Nat}(h:Below B w w'):Mod (List.range' B (w.heap.size-B)) w w':=
 ⟨h.os,h.tape,h.output,h.size,fun k hk hn=>h.block k (by simp[List.mem_range'_1]at hn;omega)⟩
theorem BK {f:α→List Nat}{l:List α}(h:(l.flatMap f).Nodup){i:Nat}{a b:α}(hi:l[i]?=some a)(hj:l[j]?=some b)(hne:i≠j):∀x∈f a,x∉f b:=by
 obtain⟨hi',rfl⟩:=List.getElem?_eq_some_iff.1 hi;obtain⟨hj',rfl⟩:=List.getElem?_eq_some_iff.1 hj;have hp:=List.pairwise_iff_getElem.1 (List.pairwise_flatMap.1 h).2;intro x hx hy;rcases Nat.lt_or_ge i j with hlt|hge
 ·exact hp i j hi' hj' hlt x hx x hy rfl
 ·exact hp j i hj' hi' (by omega) x hy x hx rfl
theorem Z9 {f:α→List Nat}{l:List α}(h:(l.flatMap f).Nodup){a:α}(ha:a∈l):(f a).Nodup:=(List.pairwise_flatMap.1 h).1 a ha
structure yt (w:World)(bl:List (Nat×Nat×Nat))(n j:Nat):Prop where
 Ja:∀(i:Nat) (b:Nat×Nat×Nat),bl[i]?=some b→j≤i→fE w b.1 b.2.1 b.2.2 n n
 done:∀(i:Nat) (b:Nat×Nat×Nat),bl[i]?=some b→i<j→aj w b.1 371 #[.pointer none,.int .i64 (n:Int),.int .i64 (n:Int)]
 tabs:∀(i:Nat) (b:Nat×Nat×Nat),bl[i]?=some b→TabAt w b.2.1 b.2.2 (dM n n)
theorem yt.mod {S:List Nat}(h:yt w bl n j)(hm:Mod S w w')(hs:∀b∈bl,b.1∉S∧b.2.1∉S∧b.2.2∉S):yt w' bl n j:=
 ⟨fun i b hb hj=>by obtain⟨h1,h2,h3⟩:=hs b (List.mem_of_getElem? hb);exact(h.Ja i b hb hj).mod hm h1 h2 h3,
  fun i b hb hj=>(h.done i b hb hj).mod hm (hs b (List.mem_of_getElem? hb)).1,
  fun i b hb=>(h.tabs i b hb).mod hm (hs b (List.mem_of_getElem? hb)).2.1 (hs b (List.mem_of_getElem? hb)).2.2⟩
def aZ (b:Nat×Nat×Nat):List Nat:=[b.1,b.2.1,b.2.2]
def gQ (bl:List (Nat×Nat×Nat)):List (Nat×Nat):=bl.map fun b=>(b.2.1,b.2.2)
theorem zM:∀bl:List (Nat×Nat×Nat),(bl.flatMap aZ).Perm (bl.map (fun b=>b.1)++fG (gQ bl))
 | []=> .refl _
 |b::t=>by
  have h:=zM t
  have h1:((b::t).flatMap aZ)=b.1::([b.2.1,b.2.2]++t.flatMap aZ):=by simp[aZ]
  have h2:((b::t).map (fun b=>b.1)++fG (gQ (b::t)))=b.1::(t.map (fun b=>b.1)++([b.2.1,b.2.2]++fG (gQ t))):=by simp[fG,gQ]
  rw[h1,h2];refine List.Perm.cons _ ((h.append_left _).trans ?_);rw[←List.append_assoc,←List.append_assoc];exact List.perm_append_comm.append_right _
theorem zl {q:Nat}(h:q∈bl.map (fun b=>b.1)++fG (gQ bl)):q∈bl.flatMap aZ:=(zM bl).mem_iff.2 h
theorem Jb (bl:List (Nat×Nat×Nat)):(gQ bl).map Prod.fst=bl.map fun b=>b.2.1:=by simp[gQ]
theorem yt.take (h:yt w bl n j)(hnd:(bl.flatMap aZ).Nodup){b:Nat×Nat×Nat}(hb:bl[j]?=some b)(hk:aj w' b.1 371 #[.pointer none,.int .i64 (n:Int),.int .i64 (n:Int)])(hm:Mod [b.1] w w'):yt w' bl n (j+1):=by
 have ap:∀(i:Nat) (c:Nat×Nat×Nat),bl[i]?=some c→i≠j→c.1≠b.1∧c.2.1≠b.1∧c.2.2≠b.1:=fun i c hc hne=>by
  have hf:=BK hnd hc hb hne;have h1:=hf c.1 (by simp[aZ]);have h2:=hf c.2.1 (by simp[aZ]);have h3:=hf c.2.2 (by simp[aZ]);simp[aZ]at h1 h2 h3;exact⟨h1.1,h2.1,h3.1⟩
 have hb3:=Z9 hnd (List.mem_of_getElem? hb);simp[aZ]at hb3;refine⟨fun i c hc hj=> ?_,fun i c hc hj=> ?_,fun i c hc=> ?_⟩
 ·obtain⟨h1,h2,h3⟩:=ap i c hc (by omega);exact(h.Ja i c hc (by omega)).mod hm (by simpa using h1) (by simpa using h2) (by simpa using h3)
 ·by_cases hij:i=j
  ·subst hij;rw[hb]at hc;cases hc;exact hk
  ·exact(h.done i c hc (by omega)).mod hm (by simpa using(ap i c hc hij).1)
 ·by_cases hij:i=j
  ·subst hij;rw[hb]at hc;cases hc;exact(h.tabs _ _ hb).mod hm (by simp;omega) (by simp;omega)
  ·obtain⟨h1,h2,h3⟩:=ap i c hc hij;exact(h.tabs i c hc).mod hm (by simpa using h2) (by simpa using h3)
theorem yt.adn (h:yt w bl n j)(hnd:(bl.flatMap aZ).Nodup):gP w (gQ bl) (List.replicate bl.length (dM n n)):=by
 refine⟨by simp[gQ],fun i b T hb hT=> ?_,fun i k b c hb hc hne=> ?_⟩
 ·unfold gQ at hb;rw[List.getElem?_map]at hb;obtain⟨x,hx,rfl⟩:=Option.map_eq_some_iff.1 hb;have:=List.mem_of_getElem? hT;rw[(List.mem_replicate.1 this).2];exact h.tabs i x hx
 ·unfold gQ at hb hc;rw[List.getElem?_map]at hb hc;obtain⟨x,hx,rfl⟩:=Option.map_eq_some_iff.1 hb;obtain⟨y,hy,rfl⟩:=Option.map_eq_some_iff.1 hc;have hf:=BK hnd hx hy hne;have h1:=hf x.2.1 (by simp[aZ]);have h2:=hf x.2.2 (by simp[aZ]);simp[aZ]at h1 h2;exact⟨h1.2.1,h1.2.2,h2.2.1,h2.2.2⟩
theorem Xb {f:α→Nat}{l:List α}{b:α}(h:l[j]?=some b):ptrs ((l.take j).map f)++[.pointer (some ⟨f b,0,none⟩)]=ptrs ((l.take (j+1)).map f):=by
 rw[rE h,List.map_append];simp[ptrs]
theorem Ut (db rb cap ob og:Nat)(bl:List (Nat×Nat×Nat))(T:aD)(n depth:Nat)(aeu:1≤bl.length∧bl.length≤2)(abm:depth≤15)(ado:Pw n)(hnd:(bC db rb ob og bl).Nodup)(w:World)(hblk:aj w db 326 #[.pointer (some ⟨ob,0,none⟩),.int .i64 (depth:Int),.slice (some ⟨rb,0,none⟩) bl.length cap,.slice none 0 0,.pointer none,.bool false])(hrow:fA w rb (bl.map fun b=>b.1))(htab:TabAt w ob og T)(hbl:yt w bl n 0):
  Calls Tryz.prog 306 #[dw db] w fun e w'=>e= .returned undef∧∃fb bQ eb vb bT,oU w' db rb cap ob og fb bQ eb vb bT (bl.map fun b=>b.1) (gQ bl) T (List.replicate bl.length (dM n n)) n depth 0∧w.heap.size≤fb∧w.heap.size≤eb∧w.heap.size≤vb∧Mod (bC db rb ob og bl) w w':=by
 obtain⟨n1,n2⟩:=aeu;unfold bC at hnd;simp only[List.nodup_cons,List.mem_cons,not_or]at hnd;obtain⟨⟨hd1,hd2,hd3,hd4⟩,⟨hr1,hr2,hr3⟩,⟨ho1,ho2⟩,hg1,hnd'⟩:=hnd;have Ny:∀b∈bl,∀q,q=b.1∨q=b.2.1∨q=b.2.2→q∈bl.flatMap fun b=> [b.1,b.2.1,b.2.2]:=fun b hb q hq=>List.mem_flatMap.2 ⟨b,hb,by simpa using hq⟩
 have hne:∀b∈bl,db≠b.1∧db≠b.2.1∧db≠b.2.2∧rb≠b.1∧rb≠b.2.1∧rb≠b.2.2∧ob≠b.1∧ob≠b.2.1∧ob≠b.2.2∧og≠b.1∧og≠b.2.1∧og≠b.2.2∧b.1<w.heap.size∧b.2.1<w.heap.size∧b.2.2<w.heap.size:=fun b hb=>by
  have m1:=Ny b hb b.1 (.inl rfl);have m2:=Ny b hb b.2.1 (.inr (.inl rfl));have m3:=Ny b hb b.2.2 (.inr (.inr rfl));obtain⟨i,hi⟩:=List.getElem?_of_mem hb;have hl:=hbl.Ja i b hi (Nat.zero_le _);exact⟨fun e=>hd4 (e▸m1),fun e=>hd4 (e▸m2),fun e=>hd4 (e▸m3),fun e=>hr3 (e▸m1),fun e=>hr3 (e▸m2),fun e=>hr3 (e▸m3),fun e=>ho2 (e▸m1),fun e=>ho2 (e▸m2),fun e=>ho2 (e▸m3),fun e=>hg1 (e▸m1),fun e=>hg1 (e▸m2),fun e=>hg1 (e▸m3),hl.lt,hl.aU,hl.aV⟩
 have O7:=qd (show(bl.flatMap aZ).Nodup from hnd');have DR:=qd abm;have vH:=qd ado;clear hnd' Ny hd4 hr3 ho2 hg1 abm ado;have HD:=qd (hblk);have HR:=qd (hrow);have HT:=qd (htab);have HB:=qd (hbl);have ah:=qd (Mod.refl (bC db rb ob og bl) w);have q1:=qJ HD.out.lt (qJ HR.out.lt (qJ HT.out.aU HT.out.aV));clear hblk hrow htab hbl;unfold dw;go_in;have dc:=HD.out.c6;go_wp2;clear dc;go_loopw [3,9] (fun _ i wr=>∃j:Nat,j≤bl.length∧i= .int .i64 j∧∃v,aj wr db 326 #[.pointer (some ⟨ob,0,none⟩),.int .i64 (depth:Int),.slice (some ⟨rb,0,none⟩) bl.length cap,v,.pointer none,.bool false]∧wr.ownsRow w.heap.size 181 1 v j (ptrs ((bl.take j).map fun b=>b.2.1))∧fA wr rb (bl.map fun b=>b.1)∧TabAt wr ob og T∧yt wr bl n j∧Mod (bC db rb ob og bl) w wr) (fun _ i _=>bl.length-(intOf i).toNat)
 case atStart=>exact⟨0,by omega,rfl,_,HD.out,by simpa[ptrs]using World.ownsRow_nil w w.heap.size _ 1,HR.out,HT.out,HB.out,ah.out⟩
 case round=>
  clear HD HR HT HB ah;obtain⟨j,hj,rfl,v,hD,hO,hR,hT,hB,hm⟩:=hrel;obtain⟨A,vc,rfl⟩:=aH hO;by_cases hlt:j<bl.length
  ·have hlt':(j:Int)<(bl.length:Int):=by omega
   have hj0:(0:Int)≤(j:Int):=by omega
   obtain⟨b,hb⟩:∃b,bl[j]?=some b:=⟨_,List.getElem?_eq_getElem hlt⟩;have oQ:=List.mem_of_getElem? hb;have hbb:=hne b oQ;have hrw:=hR.at_ j b.1 (by rw[List.getElem?_map,hb];rfl);have HPs:=qd (Xb (f:=fun b:Nat×Nat×Nat=>b.2.1) hb);have FN:=qd hb;clear hb;have HD:=qd (hD);have HR:=qd (hR);have HT:=qd (hT);have HB:=qd (hB);have HO:=qd (hO);have ah:=qd (hm);clear hD hO hR hT hB hm;have z1:=qJ ah.out.size (qJ HD.out.lt (qJ HR.out.lt (qJ HT.out.aU HT.out.aV)));go_upto_region 3 with fail;have dc:=HD.out.c6;refine rT (fun(w':World)=>w'.cell? ⟨db,3,none⟩=some (.slice A j vc)) [14] ?_;have hHeld:=dc.2.2.2.1;refine vW 0 rfl ?_;refine vW 1 rfl ?_;refine vW 2 rfl ?_;refine vW 3 rfl ?_;refine vT 4 rfl ?_;refine vW 5 rfl ?_;refine nT 6 rfl fun K hK=> ?_;go_simp;have mO:=qd (Um b.1 b.2.1 b.2.2 n wr.drew (((HB.out.Ja j b FN.out (Nat.le_refl _)).mod (Mod.drewN [] wr 1) (by simp) (by simp) (by simp))));unfold nS cK at mO;refine(mO.out).mono ?_;rintro y w1 ⟨rfl,hk1,_,hm⟩;replace hm:Mod [b.1] wr w1:=(Mod.drewN [b.1] wr 1).then hm;have hB1:=HB.out.take O7.out FN.out hk1 hm;clear mO HB hk1;have hm0:Mod (bC db rb ob og bl) wr w1:=hm.more (by intro q hq;simp at hq;subst hq;exact(uZ oQ).1);have WX:=ah;clear ah;have ah:=qd (Mod.refl [b.1] wr);clear hrw dc;replace HD:=qM hm HD;replace HR:=qM hm HR;replace HT:=qM hm HT;replace HO:=qM hm HO;have z6:=(hm).size;replace ah:=qd (ah.out.trans hm (fun _ hh _=>hh) (by intro k hk hl;simp at hk⊢<;>omega));clear ah;have ah:=qd (WX.out.then hm0);clear WX hm0 hm
   have HB:=qd hB1;clear hB1;have dc:=HD.out.c6;go_wp2_with fail;have hHeld:=dc.2.2.2.1;refine kO hK ?_;clear hK K;refine vW 7 rfl ?_;refine vW 8 rfl ?_;refine nT 9 rfl fun K hK=> ?_;go_simp;refine(ZQ (some ⟨b.2.1,0,none⟩) w1).mono ?_;rintro y w2 ⟨rfl,rfl⟩;go_wp2_with fail;have hHeld:=dc.2.2.2.1;refine kO hK ?_;clear hK K;refine nT 10 rfl fun K hK=> ?_;go_simp;have q7:=qJ HD.out.lt (qJ HR.out.lt (qJ HT.out.aU (qJ HT.out.aV ah.out.size)));refine dQ 181 #[.pointer (some ⟨b.2.1,0,none⟩)] ?_;rintro w3 ⟨hnew,hb⟩;obtain⟨xb,hxb⟩:∃xb,xb=w1.heap.size:=⟨_,rfl⟩;rw[←hxb]at hnew⊢
   replace hxb:w1.heap.size≤xb:=by omega
   clear dc;replace HD:=qB hb HD;replace HR:=qB hb HR;replace HT:=qB hb HT;replace HO:=qB hb HO;replace HB:=qd (HB.out.mod (Mod.of_below hb []) (by simp));have z12:=(hb).size;replace ah:=qT ah hb;have HX:=qd (hnew);clear hnew hb;have dc:=HD.out.c6;have xc0:=HX.out.cell 0;simp only[List.getElem?_toArray,List.getElem?_cons_zero]at xc0;have hHeld:=dc.2.2.2.1;refine kO hK ?_;clear hK K;refine nT 11 rfl fun K hK=> ?_;refine ng (by rfl) (by rfl) lH HO.out (by rfl) (by rfl) (rA (size:=1) (m:=1) HX.out (by rfl)) (by rfl) (by omega) (by have:=ah.out.size;omega) ?_;intro v4 w4 dh gN;have hown5:w4.ownsRow w.heap.size 181 1 v4 (j+1) (ptrs ((bl.take (j+1)).map fun b=>b.2.1)):=HPs.out▸dh;clear dh;obtain⟨A4,vc4,rfl⟩:=aH hown5;have hb4:=gN.below;clear HX HO dc xc0;replace HD:=qd (HD.out.mod (lS hb4) (by simp[List.mem_range'_1]<;>omega));replace HR:=qd (HR.out.mod (lS hb4) (by simp[List.mem_range'_1]<;>omega));replace HT:=qd (HT.out.mod (lS hb4) (by simp[List.mem_range'_1]<;>omega) (by simp[List.mem_range'_1]<;>omega));replace HB:=qd (HB.out.mod (lS hb4) (fun b hb=>by have hh:=hne b hb;simp[List.mem_range'_1]<;>omega));have z13:=(hb4).size;replace ah:=qd (ah.out.trans (lS hb4) (fun _ hh _=>hh) (by intro k hk hl;simp[List.mem_range'_1]at hk;omega));have HO:=qd hown5;clear hown5 hb4;have dc:=HD.out.c6;have df:=HD.out.f6;have hHeld:=dc.2.2.2.1;refine kO hK ?_;clear hK K;refine vW 12 rfl ?_;refine vW 13 rfl ?_;refine nT 14 rfl fun K hK=> ?_;go_simp;refine kO hK ?_;clear hK K
   refine aX (by kernel_rfl) ?_ _;have q14:=qJ HD.out.lt (qJ HR.out.lt (qJ HT.out.aU HT.out.aV));refine Io HD.out ?_;rintro w5 ⟨hnew,hm⟩;simp only[pt]at hnew;replace HR:=qM hm HR;replace HT:=qM hm HT;replace HB:=qd (HB.out.mod hm (fun b hb=>by have hh:=hne b hb;simp<;>omega));replace HO:=qM hm HO;have z18:=(hm).size;replace ah:=qd (ah.out.trans hm (fun _ hh _=>hh) (by intro k hk hl;simp[bC]at hk⊢<;>omega));replace HD:=qd hnew;clear hnew hm;go_wp2;go_roundw
   case rel=>exact⟨j+1,by omega,by go_num,_,HD.out,HO.out,HR.out,HT.out,HB.out,ah.out⟩
   case measure=>simp[intOf];omega
  ·obtain rfl:j=bl.length:=by omega
   have hlt':¬(bl.length:Int)<(bl.length:Int):=by omega
   rw[List.take_length]at hO;obtain⟨fb,rfl,oh,hfr,_⟩:=fA.iC hO (by omega);have HD:=qd (hD);have HR:=qd (hR);have HT:=qd (hT);have HB:=qd (hB);have HF:=qd (hfr);have ah:=qd (hm);clear hD hO hR hT hB hfr hm;have z1:=qJ ah.out.size (qJ HD.out.lt (qJ HR.out.lt (qJ HT.out.aU (qJ HT.out.aV HF.out.lt))));go_upto_region 5 with fail;have dc:=HD.out.c6;have vI:=qd (Z8 ob fb vc depth (bl.map fun b:Nat×Nat×Nat=>b.2.1) (by rw[List.length_map];exact⟨n1,n2⟩) DR.out wr.drew (HF.out.mod (Mod.drewN [] wr 1) (by simp)));rw[List.length_map]at vI;refine rT (fun(w':World)=>w'.cell? ⟨db,0,none⟩=some (.pointer (some ⟨ob,0,none⟩))∧w'.cell? ⟨db,1,none⟩=some (.int .i64 (depth:Int))∧w'.cell? ⟨db,3,none⟩=some (.slice (some ⟨fb,0,none⟩) bl.length vc)) [19] ?_;have hHeld:=(⟨dc.1,dc.2.1,dc.2.2.2.1⟩:_∧_∧_);refine vW 0 rfl ?_;refine vW 1 rfl ?_;refine vW 2 rfl ?_;refine vW 3 rfl ?_;refine vT 4 rfl ?_;refine vW 5 rfl ?_;refine vW 6 rfl ?_;refine vW 7 rfl ?_;refine vT 8 rfl ?_;refine vW 9 rfl ?_;refine vW 10 rfl ?_;refine vW 11 rfl ?_;refine vT 12 rfl ?_;refine nT 13 rfl fun K hK=> ?_;go_simp;refine(vI.out).mono ?_;rintro y w1 ⟨eb,vb,c2,Lj,hvb,hev,rfl,Li,hb⟩;replace hb:Below wr.heap.size wr w1:=bP hb (Below.refl _ _).drew;replace Lj:wr.heap.size≤eb:=Lj;replace hvb:wr.heap.size≤vb:=hvb;clear vI dc;replace HD:=qB hb HD;replace HR:=qB hb HR;replace HT:=qB hb HT;replace HB:=qd (HB.out.mod (Mod.of_below hb []) (by simp));replace HF:=qB hb HF;have z7:=(hb).size;replace ah:=qT ah hb;have HE:=qd (Li);clear Li hb
   have dc:=HD.out.c6;go_wp2_with fail;have hHeld:=(⟨dc.1,dc.2.1,dc.2.2.2.1⟩:_∧_∧_);refine kO hK ?_;clear hK K;refine vW 14 rfl ?_;refine vW 15 rfl ?_;refine nT 16 rfl fun K hK=> ?_;go_simp;refine(WT (some ⟨eb,0,none⟩) w1).mono ?_;rintro y w2 ⟨rfl,rfl⟩;go_wp2_with fail;have hHeld:=(⟨dc.1,dc.2.1,dc.2.2.2.1⟩:_∧_∧_);refine kO hK ?_;clear hK K;refine vW 17 rfl ?_;refine vW 18 rfl ?_;refine nT 19 rfl fun K hK=> ?_;have dc:=HD.out.c6;have df:=HD.out.f6;go_simp;refine kO hK ?_;clear hK K;refine aX (by kernel_rfl) ?_ _;have q8:=qJ HD.out.lt (qJ HR.out.lt (qJ HT.out.aU (qJ HT.out.aV (qJ HF.out.lt (qJ HE.out.lt HE.out.pU)))));refine Io HD.out ?_;rintro w3 ⟨hnew,hm⟩;simp only[pt]at hnew;replace HR:=qM hm HR;replace HT:=qM hm HT;replace HB:=qd (HB.out.mod hm (fun b hb=>by have hh:=hne b hb;simp<;>omega));replace HF:=qM hm HF;replace HE:=qM hm HE;have z15:=(hm).size;replace ah:=qd (ah.out.trans hm (fun _ hh _=>hh) (by intro k hk hl;simp[bC]at hk⊢<;>omega));replace HD:=qd hnew;clear hnew hm;have adp:=O7.out;have hd4:∀b∈bl,_:=hne
   have Xc:oU w3 db rb cap ob og fb vc eb vb c2 (bl.map fun b=>b.1) (gQ bl) T (List.replicate bl.length (dM n n)) n depth 0:=by
    have hlt1:(bl.map fun b=>b.1).length=bl.length:=List.length_map ..;have hlt2:(gQ bl).length=bl.length:=List.length_map ..;refine⟨by rw[hlt1,hlt2];exact HD.out,HR.out,fun q hq=> ?_,by rw[Jb];exact HF.out,by rw[Jb];exact HE.out,HT.out,HB.out.adn adp,vH.out,by rw[hlt2];exact⟨n1,n2⟩,by rw[hlt1,hlt2],DR.out, ?_⟩
    ·obtain⟨b,hb,rfl⟩:=List.mem_map.1 hq;obtain⟨i,hi⟩:=List.getElem?_of_mem hb;exact HB.out.done i b hi (List.getElem?_eq_some_iff.1 hi).1
    ·have hlow:∀q∈bl.map (fun b=>b.1)++fG (gQ bl),q<w.heap.size∧db≠q∧rb≠q∧ob≠q∧og≠q:=fun q hq=>by
      obtain⟨b,hb,Av⟩:=List.mem_flatMap.1 (zl hq);have hh:=hne b hb;simp[aZ]at Av
      rcases Av with rfl|rfl|rfl<;>omega
     unfold aS;simp only[List.nodup_cons,List.mem_cons,not_or]
     have hz:∀q,(q=db∨q=rb∨q=ob∨q=og∨w.heap.size≤q)→q∉bl.map (fun b=>b.1)++fG (gQ bl):=fun q hq hm=>by
      have:=hlow q hm;omega
     refine⟨⟨by omega,by omega,by omega,by omega,by omega,by omega,hz _ (by omega)⟩,⟨by omega,by omega,by omega,by omega,by omega,hz _ (by omega)⟩,⟨by omega,by omega,by omega,by omega,hz _ (by omega)⟩,⟨by omega,by omega,by omega,hz _ (by omega)⟩,⟨by omega,by omega,hz _ (by omega)⟩,⟨by omega,hz _ (by omega)⟩,hz _ (by omega),(zM bl).nodup_iff.1 adp⟩
   go_wp2;go_end0
   first|exact⟨rfl,fb,vc,eb,vb,⟨c2,Xc⟩,oh,by omega,by omega,ah.out⟩|exact⟨rfl,fb,vc,eb,vb,c2,Xc,oh,by omega,by omega,ah.out⟩
end
theorem MX {W0:World}{E:Nat→Addr}(db rb cap ob og fb bQ eb vb bT:Nat)(bE:List Nat)(bs:List (Nat×Nat))(T:aD)(Ts:List aD)(n depth next:Nat)(P:MP)(x:bJ)(w:World)(h:oU w db rb cap ob og fb bQ eb vb bT bE bs T Ts n depth next)
  (hok:lY T) (hn:next<T.gs.length) (hfit:Fits bs.length depth Ts (bI (T.gs.getD next []))) (hM:aQ w P x) (hE:Env W0 E w) (pW:P.mb∉aS db rb fb eb vb ob og bE bs) (hb0:W0.heap.size≤P.mb) (hbf:∀q∈aS db rb fb eb vb ob og bE bs,W0.heap.size≤q):
  Calls Tryz.prog 303 #[dw db,.pointer (some ⟨P.mb,P.mo,none⟩)] w fun e w'=>e= .returned (.bool true)∧oU w' db rb cap ob og fb bQ eb vb bT bE bs (takeN T next 8) (eD bs.length depth ((x.add (cU 1) 1).add cV 1,Ts) (bI (T.gs.getD next []))).2 n depth (next+1)∧aQ w' P (eD bs.length depth ((x.add (cU 1) 1).add cV 1,Ts) (bI (T.gs.getD next []))).1∧Mod (P.mb::aS db rb fb eb vb ob og bE bs) w w':=by
 have hnd:=h.nd;unfold aS at hnd pW hbf;simp only[List.nodup_cons,List.mem_cons,not_or,List.nodup_append,List.mem_append]at hnd pW;obtain⟨⟨d1,d2,d3,d4,d5,d6,d7,d8⟩,⟨r1,r2,r3,r4,r5,r6,r7⟩,⟨f1,f2,f3,f4,f5,f6⟩,⟨e1,e2,e3,e4,e5⟩,⟨v1,v2,v3,v4⟩,⟨o1,o2,o3⟩,⟨g1,g2⟩,hn1,hn2,hn3⟩:=hnd;obtain⟨m1,m2,m3,m4,m5,m6,m7,m8,m9⟩:=pW;have hfl:∀b∈bs,b.1∈fG bs∧b.2∈fG bs:=fun b hb=>⟨dG.2 ⟨b,hb,.inl rfl⟩,dG.2 ⟨b,hb,.inr rfl⟩⟩
 have hS:=WW (W0:=W0) (E:=E) eb ob og vb bT depth next bs T Ts P x h.many h.deep w h.ev h.tab hok hn h.tabs hfit hM hE
  (fun b hb=>by
   obtain⟨q1,q2⟩:=hfl b hb;simp only[List.mem_cons,List.not_mem_nil,or_false,not_or]
   exact⟨⟨fun e=>m9 (e▸q1),fun e=>e5 (e▸q1),fun e=>v4 (e▸q1),fun e=>o3 (e▸q1),fun e=>g2 (e▸q1)⟩,⟨fun e=>m9 (e▸q2),fun e=>e5 (e▸q2),fun e=>v4 (e▸q2),fun e=>o3 (e▸q2),fun e=>g2 (e▸q2)⟩⟩)
  (by simp;omega) (by simp;omega) (by simp;omega) hb0 (hbf _ (by simp)) (hbf _ (by simp)) (hbf _ (by simp)) (fun b hb=>⟨hbf _ (by simp[hfl b hb]),hbf _ (by simp[hfl b hb])⟩)
 have bc3:=h.blk.cell 3;have bc4:=h.blk.cell 4;simp only[gl]at bc3 bc4;have mQ:=qd (uz db fb bs.length bQ w bc3);have HS:=qd hS;have HH:=qd h;unfold dw at mQ⊢;clear h hS hfit;go_in;go_wp2_with fail;refine(mQ.out).mono ?_;rintro y w1 ⟨rfl,rfl⟩;go_wp2_with fail;refine(HS.out).mono ?_;rintro y w1 ⟨rfl,Li,hT,hTs,hM1,hm⟩
 have HF:=qd (show oU w1 db rb cap ob og fb bQ eb vb bT bE bs (takeN T next 8) (eD bs.length depth ((x.add (cU 1) 1).add cV 1,Ts) (bI (T.gs.getD next []))).2 n depth (next+1)from by
  have hap:∀q,q≠P.mb→q≠eb→q≠ob→q≠og→q∉fG bs→q∉P.mb::eb::ob::og::fG bs:=fun q a1 a2 a3 a4 a5=>by simp only[List.mem_cons,not_or];exact⟨a1,a2,a3,a4,a5⟩
  refine⟨HH.out.blk.mod hm (hap _ (by omega) (by omega) (by omega) (by omega) (by assumption)),HH.out.row.mod hm (hap _ (by omega) (by omega) (by omega) (by omega) (by assumption)),fun b hb=>(HH.out.qj b hb).mod hm (hap _ (fun e=>m8 (e▸hb)) (fun e=>e4 (e▸hb)) (fun e=>o2 (e▸hb)) (fun e=>g1 (e▸hb)) (fun hq=>hn3 b hb b hq rfl)),
   HH.out.fresh.mod hm (hap _ (by omega) (by omega) (by omega) (by omega) (by assumption)),Li,hT,hTs,HH.out.pow,HH.out.many,HH.out.eq,HH.out.deep,HH.out.nd⟩)
 have HM:=qd (hm.more (T:=P.mb::aS db rb fb eb vb ob og bE bs) (by intro q hq;unfold aS;simp only[List.mem_cons,List.mem_append]at hq⊢;rcases hq with h|h|h|h|h<;>simp[h]));have HM1:=qd hM1;clear Li hT hTs hM1 hm;go_wp2;go_ret;exact⟨rfl,HF.out,HM1.out,HM.out⟩
section
theorem O8 {n k j:Nat}(h:(j+1)*n≤k):pV n k j=n:=by
 have:=Nat.add_one_mul j n;unfold pV;omega
theorem aac {n k j:Nat}(h:k<(j+1)*n)(h2:j*n≤k):pV n k j=k-j*n∧k-j*n<n:=by
 have:=Nat.add_one_mul j n;unfold pV;omega
theorem aad {n k j:Nat}(h:k<(j+1)*n)(h2:j*n≤k)(i:Nat):pV n (k+1) i=if i=j then pV n k j+1 else pV n k i:=by
 have h3:=Nat.add_one_mul j n;by_cases hij:i=j
 ·subst hij;rw[if_pos rfl];unfold pV;omega
 ·rw[if_neg hij];unfold pV;rcases Nat.lt_or_ge i j with hlt|hge
  ·have h4:=Nat.mul_le_mul_right n (show i+1≤j from hlt);have h5:=Nat.add_one_mul i n;omega
  ·have h4:=Nat.mul_le_mul_right n (show j+1≤i by omega);omega
section
variable {w w' : World} {db rb cap ob og : Nat} {bl : List (Nat × Nat × Nat)} {T : aD} {n depth k j mb : Nat}
theorem aev {b c:Nat×Nat×Nat}(hnd:(bC db rb ob og bl).Nodup){i:Nat}(hc:bl[i]?=some c)(hb:bl[j]?=some b)(hne:i≠j):∀q∈aZ c,q∉aZ b:=by
 unfold bC at hnd;simp only[List.nodup_cons]at hnd;exact BK (f:=aZ) hnd.2.2.2.2 hc hb hne
theorem uY.stepped (h:uY w db rb cap ob og bl T n depth k){b:Nat×Nat×Nat}(hb:bl[j]?=some b)(hk1:k<(j+1)*n)(hk2:j*n≤k)(hB:fE w' b.1 b.2.1 b.2.2 n (pV n k j+1))(hm:Mod [mb,b.1,b.2.1,b.2.2] w w')(hmb:mb∉bC db rb ob og bl):
  aj w' db 326 #[.pointer (some ⟨ob,0,none⟩),.int .i64 (depth:Int),.slice (some ⟨rb,0,none⟩) bl.length cap,.slice none 0 0,.pointer none,.bool false]∧fA w' rb (bl.map fun b=>b.1)∧TabAt w' ob og T∧∀(i:Nat) (c:Nat×Nat×Nat),bl[i]?=some c→fE w' c.1 c.2.1 c.2.2 n (pV n (k+1) i):=by
 have hnd:=h.nd;unfold bC at hnd;simp only[List.nodup_cons,List.mem_cons,not_or]at hnd;obtain⟨⟨d1,d2,d3,d4⟩,⟨r1,r2,r3⟩,⟨o1,o2⟩,g1,hn⟩:=hnd;have oQ:=List.mem_of_getElem? hb;have hin:∀q∈aZ b,q∈bl.flatMap fun b=> [b.1,b.2.1,b.2.2]:=fun q hq=>List.mem_flatMap.2 ⟨b,oQ,hq⟩
 have hS:∀q,q≠mb→q∉(bl.flatMap fun b=> [b.1,b.2.1,b.2.2])→q∉[mb,b.1,b.2.1,b.2.2]:=fun q h1 h2 h3=>by
  rcases List.mem_cons.1 h3 with e|e
  ·exact h1 e
  ·exact h2 (hin q e)
 have hne:∀q∈bC db rb ob og bl,q≠mb:=fun q hq e=>hmb (e▸hq);refine⟨h.blk.mod hm (hS _ (hne _ (by simp[bC])) d4),h.row.mod hm (hS _ (hne _ (by simp[bC])) r3),h.tab.mod hm (hS _ (hne _ (by simp[bC])) o2) (hS _ (hne _ (by simp[bC])) g1),fun i c hc=> ?_⟩;rw[aad hk1 hk2];by_cases hij:i=j
 ·subst hij;rw[hb]at hc;cases hc;rw[if_pos rfl];exact hB
 ·rw[if_neg hij];have ha:=aev h.nd hc hb hij;obtain⟨m1,m2,m3⟩:=uZ (db:=db) (rb:=rb) (ob:=ob) (og:=og) (List.mem_of_getElem? hc)
  have hz:∀q∈aZ c,q≠mb→q∉[mb,b.1,b.2.1,b.2.2]:=fun q h1 h2 h3=>by
   rcases List.mem_cons.1 h3 with e|e
   ·exact h2 e
   ·exact ha q h1 e
  exact(h.qj i c hc).mod hm (hz _ (by simp[aZ]) (hne _ m1)) (hz _ (by simp[aZ]) (hne _ m2)) (hz _ (by simp[aZ]) (hne _ m3))
end
theorem MZ {W0:World}{E:Nat→Addr}(db rb cap ob og:Nat)(bl:List (Nat×Nat×Nat))(T:aD)(n depth k:Nat)(P:MP)(x:bJ)(w:World)(h:uY w db rb cap ob og bl T n depth k)
  (hM:aQ w P x) (hE:Env W0 E w) (hmF:P.mb∉bC db rb ob og bl) (hb0:W0.heap.size≤P.mb) (hbF:∀q∈bC db rb ob og bl,W0.heap.size≤q):
  Calls Tryz.prog 303 #[dw db,.pointer (some ⟨P.mb,P.mo,none⟩)] w fun e w'=>e= .returned (.bool true)∧aQ w' P ((x.add cV 1).add (cU 1) 1)∧Mod (P.mb::bC db rb ob og bl) w w'∧(if k+1=n*bl.length then∃fb bQ eb vb bT,oU w' db rb cap ob og fb bQ eb vb bT (bl.map fun b=>b.1) (gQ bl) T (List.replicate bl.length (dM n n)) n depth 0∧w.heap.size≤fb∧w.heap.size≤eb∧w.heap.size≤vb else uY w' db rb cap ob og bl T n depth (k+1)):=by
 have hml:=hM.lt;have HH:=qd h;have hle:=h.pow.le;have hpos:=h.pow.pos;have aha:=h.lt;obtain⟨n1,n2⟩:=h.many;have bc2:=h.blk.cell 2;have bc3:=h.blk.cell 3;simp only[gl]at bc2 bc3;have mQ:=qd (vX db w bc3);have HM:=qd hM;have HE:=qd hE;unfold dw at mQ⊢;clear h hM hE;go_in;go_wp2_with fail;refine(mQ.out).mono ?_;rintro y w1 ⟨rfl,rfl⟩;go_wp2;clear bc2 bc3 mQ;go_loopw [4,5,6,20] (fun _ _ _ i wr=>∃j:Nat,j≤bl.length∧i= .int .i64 j∧j*n≤k∧Below w.heap.size w wr) (fun _ _ _ i _=>bl.length-(intOf i).toNat)
 case atStart=>exact⟨0,by omega,rfl,by omega,Below.refl _ _⟩
 case round=>
  obtain⟨j,hj,rfl,hjk,hb⟩:=hrel;by_cases hlt:j<bl.length
  ·have hlt':(j:Int)<(bl.length:Int):=by omega
   have hj0:(0:Int)≤(j:Int):=by omega
   obtain⟨b,hbi⟩:∃b,bl[j]?=some b:=⟨_,List.getElem?_eq_getElem hlt⟩;have oQ:=List.mem_of_getElem? hbi;have hD:=HH.out.mod (Mod.of_below hb []) (by simp);have hrw:=hD.row.at_ j b.1 (by rw[List.getElem?_map,hbi];rfl);have O9:=hD.qj j b hbi;by_cases hfull:(j+1)*n≤k
   ·rw[O8 hfull]at O9;have HC:=qd (MR b.1 b.2.1 b.2.2 n (.pointer (some ⟨P.mb,P.mo,none⟩)) wr O9);have HB:=qd hb;unfold nS at HC;clear hbi hD O9 hb;go_wp2_with fail;refine(HC.out).mono ?_;rintro y w2 ⟨rfl,hb2⟩;have HB2:=qd (HB.out.trans (hb2.mono HB.out.size));clear hb2;go_wp2;go_roundw
    case rel=>exact⟨j+1,by omega,by go_num,hfull,HB2.out⟩
    case measure=>simp[intOf];omega
   ·have hpart:k<(j+1)*n:=by omega
    obtain⟨hko,hkn⟩:=aac hpart hjk;have hmul:=Nat.add_one_mul j n;have hbf:=hbF;have pW:=hmF;obtain⟨q1,q2,q3⟩:=uZ (db:=db) (rb:=rb) (ob:=ob) (og:=og) oQ;have hne:∀q∈bC db rb ob og bl,P.mb≠q:=fun q hq e=>pW (e▸hq);have HC:=qd (Ul (W0:=W0) (E:=E) b.1 b.2.1 b.2.2 n (pV n k j) P x (by omega) wr O9 (HM.out.below hb) (HE.out.next hb) (hne _ q1) (hne _ q2) (hne _ q3) hb0 (hbf _ q1) (hbf _ q2) (hbf _ q3));have HD:=qd hD;have HB:=qd hb;have FN:=qd hbi;unfold nS at HC;clear hbi hD O9 hb;go_wp2_with fail;refine(HC.out).mono ?_;rintro y w2 ⟨rfl,hB2,hM2,hm⟩;have hpc:=HD.out.stepped FN.out hpart hjk hB2 hm pW;have Ay:=qd hpc;have HM2:=qd hM2;have HB2:=qd hB2;have hmt:Mod (P.mb::bC db rb ob og bl) w w2:=(Mod.of_below HB.out _).then (hm.more (by intro q hq;simp only[List.mem_cons,List.not_mem_nil,or_false]at hq⊢;rcases hq with rfl|rfl|rfl|rfl;exact .inl rfl;exact .inr q1;exact .inr q2;exact .inr q3));have tN:=qd hmt;have bc2:=hpc.1.cell 2;simp only[gl]at bc2;have hnl:n*bl.length=bl.length*n:=Nat.mul_comm _ _;clear hpc hmt hM2 hm hB2;by_cases hlast:j+1=bl.length
    ·have hjl:(j:Int)=(bl.length:Int)-1:=by omega
     have hlm:bl.length*n=(j+1)*n:=by rw[hlast]
     have jh:=qd (sH b.1 n (pV n k j+1) _ w2 HB2.out.le hle HB2.out.blk);unfold nS at jh;obtain⟨dl,hdl⟩:∃dl,dl=n-(pV n k j+1):=⟨_,rfl⟩;rw[←hdl]at jh;by_cases hall:k+1=n*bl.length
     ·have hd0:dl=0:=by omega
      have hbg:∀(i:Nat) (q:Nat×Nat×Nat),bl[i]?=some q→fE w2 q.1 q.2.1 q.2.2 n n:=fun i q hq=>by
       have hi:=(List.getElem?_eq_some_iff.1 hq).1;have h1:=Ay.out.2.2.2 i q hq;have h2:=Nat.mul_le_mul_right n (show i+1≤bl.length by omega)
       rwa [O8 (by omega)]at h1
      have hBg:yt w2 bl n 0:=⟨fun i q hq _=>hbg i q hq,fun i q _ hi=>by omega,fun i q hq=>(hbg i q hq).tab⟩;have zm:=qd (fun V (hV:Mod [] w2 V)=>Ut db rb cap ob og bl T n depth ⟨n1,n2⟩ HH.out.deep HH.out.pow HH.out.nd V (Ay.out.1.mod hV (by simp)) (Ay.out.2.1.mod hV (by simp)) (Ay.out.2.2.1.mod hV (by simp) (by simp)) (hBg.mod hV (by simp)));unfold dw at zm;rw[hd0]at jh;clear hbg hBg hdl hd0;go_wp2_with fail;refine(jh.out).mono ?_;rintro y w3 ⟨rfl,hw3⟩;have kL:Mod [] w2 w3:=hw3▸Mod.drewN [] w2 1;have HB3:=qd (zm.out w3 kL);have Oi:=qd (HM2.out.mod kL (by simp));have ae7:=qd (tN.out.then (kL.more (by simp)));have kN:=qd kL.size;have HS4:=qd tN.out.size;clear hw3 kL;go_wp2_with fail;refine(HB3.out).mono ?_;rintro y w4 ⟨rfl,fb,bQ,eb,vb,hrest⟩;have lZ:=qd hrest;clear hrest;go_wp2;go_ret;obtain⟨bT,Xc,oh,Lj,hvb,kD⟩:=lZ.out;have hs3:=kN.out;have hs4:=HS4.out;refine⟨rfl,Oi.out.mod kD pW,ae7.out.then (kD.more (fun q hq=>List.mem_cons_of_mem _ hq)), ?_⟩
      try rw[if_pos hall]
      exact⟨fb,bQ,eb,vb,by first|exact⟨bT,Xc,by omega,by omega,by omega⟩|exact⟨⟨bT,Xc⟩,by omega,by omega,by omega⟩⟩
     ·have hd0:¬(dl:Int)=0:=by omega
      have hd1:¬dl=0:=by omega
      clear hdl;go_wp2_with fail;refine(jh.out).mono ?_;rintro y w3 ⟨rfl,hw3⟩;have HW3:=qd (show Mod [] w2 w3 from hw3▸Mod.drewN [] w2 1);clear hw3;go_wp2;go_ret;refine⟨rfl,HM2.out.mod HW3.out (by simp),tN.out.then (HW3.out.more (by simp)), ?_⟩
      try rw[if_neg hall]
      exact⟨Ay.out.1.mod HW3.out (by simp),Ay.out.2.1.mod HW3.out (by simp),fun i q hq=>(Ay.out.2.2.2 i q hq).mod HW3.out (by simp) (by simp) (by simp),Ay.out.2.2.1.mod HW3.out (by simp) (by simp),HH.out.pow,HH.out.many,by omega,HH.out.deep,HH.out.nd⟩
    ·have hjl:¬(j:Int)=(bl.length:Int)-1:=by omega
     have h2:=Nat.mul_le_mul_right n (show j+1+1≤bl.length by omega);have h3:=Nat.add_one_mul (j+1) n
     have hall:¬k+1=n*bl.length:=by omega
     go_wp2;go_ret;refine⟨rfl,HM2.out,tN.out, ?_⟩
     try rw[if_neg hall]
     exact⟨Ay.out.1,Ay.out.2.1,Ay.out.2.2.2,Ay.out.2.2.1,HH.out.pow,HH.out.many,by omega,HH.out.deep,HH.out.nd⟩
  ·exfalso
   obtain rfl:j=bl.length:=by omega
   have:=Nat.mul_comm bl.length n;omega
end
end Go.Proofs.YtjfgpnapccdnlaaGreatDoor
