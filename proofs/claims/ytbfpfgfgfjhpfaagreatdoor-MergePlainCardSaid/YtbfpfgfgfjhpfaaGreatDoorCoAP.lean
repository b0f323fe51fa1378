/- An evacuation's New by its contract. -/
import Derived.Test.YtbfpfgfgfjhpfaaGreatDoorCoAL
import Derived.Test.YtbfpfgfgfjhpfaaGreatDoorSq
import Derived.Test.YtbfpfgfgfjhpfaaGreatDoorPlA
import Derived.Test.YtbfpfgfgfjhpfaaGreatDoorCoG
namespace Go.Proofs.YtbfpfgfgfjhpfaaGreatDoor
set_option maxRecDepth 100000
set_option maxHeartbeats 8000000
open Go.RowKit dP
theorem TL (rb cap:Nat)(ts:List Nat)(hn:1≤ts.length∧ts.length≤2)(w:World)(h:fQ w rb ts):
  Calls Tryz.prog 282 #[.slice (some ⟨rb,0,none⟩) ts.length cap] w fun e w'=>∃vM c',w.heap.size≤vM∧e= .returned (.slice (some ⟨vM,0,none⟩) ts.length c')∧fQ w' vM ts∧Below w.heap.size w w':=by
 have HR:=qd h.reads;obtain⟨n1,n2⟩:=hn
 have hnn:(Go.binOp .eql 278 (.slice (some ⟨rb,0,none⟩) ts.length cap) (.slice none 0 0)).run Tryz.prog w= .ok (.bool false) w:=by first|rfl|kernel_rfl|simp[Go.binOp,go_sem]
 clear h;go_in;go_wp2_with (at_builtin;refine Bt rfl rfl lU (World.ownsRow_lit w #[] 0 (Nat.le_refl _) (by simp) rfl) rfl rfl (HR.out.alloc (Nat.le_refl _) _) (xY ts) (by omega) (by simp) ?_;intro v4 w4 dM hg4);rw[Nat.zero_add]at dM;obtain⟨A4,c4,rfl⟩:=aU dM;go_ret;obtain⟨vM,rfl,Gq,hrow,_⟩:=fQ.eO (show w4.ownsRow w.heap.size 178 1 (.slice A4 ts.length c4) ts.length (ptrs ts)from by simpa using dM) (by omega);have hB:Below w.heap.size w w4:=((Below.refl _ _).alloc (Nat.le_refl _) _).trans hg4.below
 first|exact⟨vM,Gq,⟨_,rfl⟩,hrow,hB⟩|exact⟨vM,_,Gq,rfl,hrow,hB⟩
theorem Zd (tb rb cap depth:Nat)(ts:List Nat)(hn:1≤ts.length∧ts.length≤2)(hd:depth≤15)(w:World)(h:fQ w rb ts):
  Calls Tryz.prog 279 #[.pointer (some ⟨tb,0,none⟩),.int .i64 (depth:Int),.slice (some ⟨rb,0,none⟩) ts.length cap] w fun e w'=>∃eb vb c2,w.heap.size≤eb∧w.heap.size≤vb∧eb≠vb∧e= .returned (.tuple #[.pointer (some ⟨eb,0,none⟩),.nilIface])∧mh w' eb tb vb c2 ts depth 0∧Below w.heap.size w w':=by
 obtain⟨n1,n2⟩:=hn;have HC:=qd (contains_nil rb cap ts n2 w h);have HK:=qd (TL rb cap ts ⟨n1,n2⟩ w h)
 have hnl:ts.length=1∨ts.length=2:=by omega
 have hd0:¬(depth:Int)<0:=by omega
 have hd1:¬(depth:Int)>15:=by omega
 clear h;obtain⟨n,hnn⟩:∃n,n=ts.length:=⟨_,rfl⟩;have HNn:=qd hnn;rw[←hnn]at HC HK hnl n1 n2;simp only[←hnn];clear hnn;rcases hnl with rfl|rfl
 all_goals
  go_in;go_wp2_with fail;refine(HC.out).mono ?_;rintro y w1 ⟨rfl,rfl⟩;go_wp2_with fail;refine(HK.out).mono ?_;rintro y w2 ⟨vb,c2,hvb,rfl,hrow,hb⟩;have hvl:=hrow.lt;have HN2:=qd (aj.new w2 308 #[.pointer (some ⟨tb,0,none⟩),.slice (some ⟨vb,0,none⟩) ts.length c2,.int .i64 (depth:Int),.int .i64 0]);have HE:=qd (And.intro (hrow.mod (Mod.of_below ((Below.refl w2.heap.size w2).alloc (Nat.le_refl _) (.cells #[.pointer (some ⟨tb,0,none⟩),.slice (some ⟨vb,0,none⟩) ts.length c2,.int .i64 (depth:Int),.int .i64 0] 308)) []) (by simp)) (hb.alloc hb.size (.cells #[.pointer (some ⟨tb,0,none⟩),.slice (some ⟨vb,0,none⟩) ts.length c2,.int .i64 (depth:Int),.int .i64 0] 308)));rw[←HNn.out]at HN2 HE;have hbs:=hb.size;clear hrow hb;go_wp2;refine bodyPost_ret (v:= .tuple #[.pointer (some ⟨w2.heap.size,0,none⟩),.nilIface]) (by simp[results,Tryz.results279,go_sem]) rfl ?_;have KT:mh (w2.alloc (.cells #[.pointer (some ⟨tb,0,none⟩),.slice (some ⟨vb,0,none⟩) _ c2,.int .i64 (depth:Int),.int .i64 0] 308)) w2.heap.size tb vb c2 ts depth 0:=⟨by rw[←HNn.out];exact HN2.out,HE.out.1⟩
  first|exact⟨w2.heap.size,vb,c2,hbs,hvb,by omega,rfl,KT,HE.out.2⟩|exact⟨w2.heap.size,hbs,vb,hvb,by omega,rfl,c2,KT,HE.out.2⟩
section
variable {w w' : World} {α : Type} {j n : Nat} {bl : List (Nat × Nat × Nat)}
theorem mq {B:Nat}(h:Below B w w'):Mod (List.range' B (w.heap.size-B)) w w':=
 ⟨h.os,h.tape,h.output,h.size,fun k hk hn=>h.block k (by simp[List.mem_range'_1]at hn;omega)⟩
theorem BK {f:α→List Nat}{l:List α}(h:(l.flatMap f).Nodup){i:Nat}{a b:α}(hi:l[i]?=some a)(hj:l[j]?=some b)(hne:i≠j):∀x∈f a,x∉f b:=by
 obtain⟨hi',rfl⟩:=List.getElem?_eq_some_iff.1 hi;obtain⟨hj',rfl⟩:=List.getElem?_eq_some_iff.1 hj;have hp:=List.pairwise_iff_getElem.1 (List.pairwise_flatMap.1 h).2;intro x hx hy;rcases Nat.lt_or_ge i j with hlt|hge
 ·exact hp i j hi' hj' hlt x hx x hy rfl
 ·exact hp j i hj' hi' (by omega) x hy x hx rfl
theorem Ze {f:α→List Nat}{l:List α}(h:(l.flatMap f).Nodup){a:α}(ha:a∈l):(f a).Nodup:=(List.pairwise_flatMap.1 h).1 a ha
structure xZ (w:World)(bl:List (Nat×Nat×Nat))(n j:Nat):Prop where
 IE:∀(i:Nat) (b:Nat×Nat×Nat),bl[i]?=some b→j≤i→gy w b.1 b.2.1 b.2.2 n n
 done:∀(i:Nat) (b:Nat×Nat×Nat),bl[i]?=some b→i<j→aj w b.1 315 #[.pointer none,.int .i64 (n:Int),.int .i64 (n:Int)]
 tabs:∀(i:Nat) (b:Nat×Nat×Nat),bl[i]?=some b→TabAt w b.2.1 b.2.2 (dZ n n)
theorem xZ.mod {S:List Nat}(h:xZ w bl n j)(hm:Mod S w w')(hs:∀b∈bl,b.1∉S∧b.2.1∉S∧b.2.2∉S):xZ w' bl n j:=
 ⟨fun i b hb hj=>by obtain⟨h1,h2,h3⟩:=hs b (List.mem_of_getElem? hb);exact(h.IE i b hb hj).mod hm h1 h2 h3,
  fun i b hb hj=>(h.done i b hb hj).mod hm (hs b (List.mem_of_getElem? hb)).1,
  fun i b hb=>(h.tabs i b hb).mod hm (hs b (List.mem_of_getElem? hb)).2.1 (hs b (List.mem_of_getElem? hb)).2.2⟩
def bA (b:Nat×Nat×Nat):List Nat:=[b.1,b.2.1,b.2.2]
def iL (bl:List (Nat×Nat×Nat)):List (Nat×Nat):=bl.map fun b=>(b.2.1,b.2.2)
theorem zI:∀bl:List (Nat×Nat×Nat),(bl.flatMap bA).Perm (bl.map (fun b=>b.1)++gI (iL bl))
 | []=> .refl _
 |b::t=>by
  have h:=zI t
  have h1:((b::t).flatMap bA)=b.1::([b.2.1,b.2.2]++t.flatMap bA):=by simp[bA]
  have h2:((b::t).map (fun b=>b.1)++gI (iL (b::t)))=b.1::(t.map (fun b=>b.1)++([b.2.1,b.2.2]++gI (iL t))):=by simp[gI,iL]
  rw[h1,h2];refine List.Perm.cons _ ((h.append_left _).trans ?_);rw[←List.append_assoc,←List.append_assoc];exact List.perm_append_comm.append_right _
theorem ze {q:Nat}(h:q∈bl.map (fun b=>b.1)++gI (iL bl)):q∈bl.flatMap bA:=(zI bl).mem_iff.2 h
theorem IG (bl:List (Nat×Nat×Nat)):(iL bl).map Prod.fst=bl.map fun b=>b.2.1:=by simp[iL]
theorem xZ.take (h:xZ w bl n j)(hnd:(bl.flatMap bA).Nodup){b:Nat×Nat×Nat}(hb:bl[j]?=some b)(hk:aj w' b.1 315 #[.pointer none,.int .i64 (n:Int),.int .i64 (n:Int)])(hm:Mod [b.1] w w'):xZ w' bl n (j+1):=by
 have ap:∀(i:Nat) (c:Nat×Nat×Nat),bl[i]?=some c→i≠j→c.1≠b.1∧c.2.1≠b.1∧c.2.2≠b.1:=fun i c hc hne=>by
  have hf:=BK hnd hc hb hne;have h1:=hf c.1 (by simp[bA]);have h2:=hf c.2.1 (by simp[bA]);have h3:=hf c.2.2 (by simp[bA]);simp[bA]at h1 h2 h3;exact⟨h1.1,h2.1,h3.1⟩
 have hb3:=Ze hnd (List.mem_of_getElem? hb);simp[bA]at hb3;refine⟨fun i c hc hj=> ?_,fun i c hc hj=> ?_,fun i c hc=> ?_⟩
 ·obtain⟨h1,h2,h3⟩:=ap i c hc (by omega);exact(h.IE i c hc (by omega)).mod hm (by simpa using h1) (by simpa using h2) (by simpa using h3)
 ·by_cases hij:i=j
  ·subst hij;rw[hb]at hc;cases hc;exact hk
  ·exact(h.done i c hc (by omega)).mod hm (by simpa using(ap i c hc hij).1)
 ·by_cases hij:i=j
  ·subst hij;rw[hb]at hc;cases hc;exact(h.tabs _ _ hb).mod hm (by simp;omega) (by simp;omega)
  ·obtain⟨h1,h2,h3⟩:=ap i c hc hij;exact(h.tabs i c hc).mod hm (by simpa using h2) (by simpa using h3)
theorem xZ.acy (h:xZ w bl n j)(hnd:(bl.flatMap bA).Nodup):iJ w (iL bl) (List.replicate bl.length (dZ n n)):=by
 refine⟨by simp[iL],fun i b T hb hT=> ?_,fun i k b c hb hc hne=> ?_⟩
 ·unfold iL at hb;rw[List.getElem?_map]at hb;obtain⟨x,hx,rfl⟩:=Option.map_eq_some_iff.1 hb;have:=List.mem_of_getElem? hT;rw[(List.mem_replicate.1 this).2];exact h.tabs i x hx
 ·unfold iL at hb hc;rw[List.getElem?_map]at hb hc;obtain⟨x,hx,rfl⟩:=Option.map_eq_some_iff.1 hb;obtain⟨y,hy,rfl⟩:=Option.map_eq_some_iff.1 hc;have hf:=BK hnd hx hy hne;have h1:=hf x.2.1 (by simp[bA]);have h2:=hf x.2.2 (by simp[bA]);simp[bA]at h1 h2;exact⟨h1.2.1,h1.2.2,h2.2.1,h2.2.2⟩
theorem V8 {f:α→Nat}{l:List α}{b:α}(h:l[j]?=some b):ptrs ((l.take j).map f)++[.pointer (some ⟨f b,0,none⟩)]=ptrs ((l.take (j+1)).map f):=by
 rw[rV h,List.map_append];simp[ptrs]
theorem TM (db rb cap ob og:Nat)(bl:List (Nat×Nat×Nat))(T:aC)(n depth:Nat)(adO:1≤bl.length∧bl.length≤2)(aau:depth≤15)(acz:Pw n)(hnd:(bI db rb ob og bl).Nodup)(w:World)(hblk:aj w db 281 #[.pointer (some ⟨ob,0,none⟩),.int .i64 (depth:Int),.slice (some ⟨rb,0,none⟩) bl.length cap,.slice none 0 0,.pointer none,.bool false])(hrow:fQ w rb (bl.map fun b=>b.1))(htab:TabAt w ob og T)(hbl:xZ w bl n 0):
  Calls Tryz.prog 270 #[dA db] w fun e w'=>e= .returned undef∧∃fb bY eb vb cB,pE w' db rb cap ob og fb bY eb vb cB (bl.map fun b=>b.1) (iL bl) T (List.replicate bl.length (dZ n n)) n depth 0∧w.heap.size≤fb∧w.heap.size≤eb∧w.heap.size≤vb∧Mod (bI db rb ob og bl) w w':=by
 obtain⟨n1,n2⟩:=adO;unfold bI at hnd;simp only[List.nodup_cons,List.mem_cons,not_or]at hnd;obtain⟨⟨hd1,hd2,hd3,hd4⟩,⟨hr1,hr2,hr3⟩,⟨ho1,ho2⟩,hg1,hnd'⟩:=hnd;have MZ:∀b∈bl,∀q,q=b.1∨q=b.2.1∨q=b.2.2→q∈bl.flatMap fun b=> [b.1,b.2.1,b.2.2]:=fun b hb q hq=>List.mem_flatMap.2 ⟨b,hb,by simpa using hq⟩
 have hne:∀b∈bl,db≠b.1∧db≠b.2.1∧db≠b.2.2∧rb≠b.1∧rb≠b.2.1∧rb≠b.2.2∧ob≠b.1∧ob≠b.2.1∧ob≠b.2.2∧og≠b.1∧og≠b.2.1∧og≠b.2.2∧b.1<w.heap.size∧b.2.1<w.heap.size∧b.2.2<w.heap.size:=fun b hb=>by
  have m1:=MZ b hb b.1 (.inl rfl);have m2:=MZ b hb b.2.1 (.inr (.inl rfl));have m3:=MZ b hb b.2.2 (.inr (.inr rfl));obtain⟨i,hi⟩:=List.getElem?_of_mem hb;have hl:=hbl.IE i b hi (Nat.zero_le _);exact⟨fun e=>hd4 (e▸m1),fun e=>hd4 (e▸m2),fun e=>hd4 (e▸m3),fun e=>hr3 (e▸m1),fun e=>hr3 (e▸m2),fun e=>hr3 (e▸m3),fun e=>ho2 (e▸m1),fun e=>ho2 (e▸m2),fun e=>ho2 (e▸m3),fun e=>hg1 (e▸m1),fun e=>hg1 (e▸m2),fun e=>hg1 (e▸m3),hl.lt,hl.aW,hl.aX⟩
 have II:=qd (show(bl.flatMap bA).Nodup from hnd');have DJ:=qd aau;have KU:=qd acz;clear hnd' MZ hd4 hr3 ho2 hg1 aau acz;have HD:=qd (hblk);have HR:=qd (hrow);have HT:=qd (htab);have HB:=qd (hbl);have ah:=qd (Mod.refl (bI db rb ob og bl) w);have q1:=qJ HD.out.lt (qJ HR.out.lt (qJ HT.out.aW HT.out.aX));clear hblk hrow htab hbl;unfold dA;go_in;have dc:=HD.out.c6;go_wp2;clear dc;go_loopw [3,9] (fun _ i wr=>∃j:Nat,j≤bl.length∧i= .int .i64 j∧∃v,aj wr db 281 #[.pointer (some ⟨ob,0,none⟩),.int .i64 (depth:Int),.slice (some ⟨rb,0,none⟩) bl.length cap,v,.pointer none,.bool false]∧wr.ownsRow w.heap.size 178 1 v j (ptrs ((bl.take j).map fun b=>b.2.1))∧fQ wr rb (bl.map fun b=>b.1)∧TabAt wr ob og T∧xZ wr bl n j∧Mod (bI db rb ob og bl) w wr) (fun _ i _=>bl.length-(intOf i).toNat)
 case atStart=>exact⟨0,by omega,rfl,_,HD.out,by simpa[ptrs]using World.ownsRow_nil w w.heap.size _ 1,HR.out,HT.out,HB.out,ah.out⟩
 case round=>
  clear HD HR HT HB ah;obtain⟨j,hj,rfl,v,hD,hO,hR,hT,hB,hm⟩:=hrel;obtain⟨A,vc,rfl⟩:=aU hO;by_cases hlt:j<bl.length
  ·have hlt':(j:Int)<(bl.length:Int):=by omega
   have hj0:(0:Int)≤(j:Int):=by omega
   obtain⟨b,hb⟩:∃b,bl[j]?=some b:=⟨_,List.getElem?_eq_getElem hlt⟩;have pq:=List.mem_of_getElem? hb;have hbb:=hne b pq;have hrw:=hR.at_ j b.1 (by rw[List.getElem?_map,hb];rfl);have HPs:=qd (V8 (f:=fun b:Nat×Nat×Nat=>b.2.1) hb);have FE:=qd hb;clear hb;have HD:=qd (hD);have HR:=qd (hR);have HT:=qd (hT);have HB:=qd (hB);have HO:=qd (hO);have ah:=qd (hm);clear hD hO hR hT hB hm;have z1:=qJ ah.out.size (qJ HD.out.lt (qJ HR.out.lt (qJ HT.out.aW HT.out.aX)));go_upto_region 3 with fail;have dc:=HD.out.c6;refine rT (fun(w':World)=>w'.cell? ⟨db,3,none⟩=some (.slice A j vc)) [14] ?_;have hHeld:=dc.2.2.2.1;refine vW 0 rfl ?_;refine vW 1 rfl ?_;refine vW 2 rfl ?_;refine vW 3 rfl ?_;refine vT 4 rfl ?_;refine vW 5 rfl ?_;refine nT 6 rfl fun K hK=> ?_;go_simp;have fZ:=qd (TD b.1 b.2.1 b.2.2 n wr.drew (((HB.out.IE j b FE.out (Nat.le_refl _)).mod (Mod.drewN [] wr 1) (by simp) (by simp) (by simp))));unfold oG cZ at fZ;refine(fZ.out).mono ?_;rintro y w1 ⟨rfl,hk1,_,hm⟩;replace hm:Mod [b.1] wr w1:=(Mod.drewN [b.1] wr 1).then hm;have hB1:=HB.out.take II.out FE.out hk1 hm;clear fZ HB hk1;have hm0:Mod (bI db rb ob og bl) wr w1:=hm.more (by intro q hq;simp at hq;subst hq;exact(vD pq).1);have VU:=ah;clear ah;have ah:=qd (Mod.refl [b.1] wr);clear hrw dc;replace HD:=qM hm HD;replace HR:=qM hm HR;replace HT:=qM hm HT;replace HO:=qM hm HO;have z6:=(hm).size;replace ah:=qd (ah.out.trans hm (fun _ hh _=>hh) (by intro k hk hl;simp at hk⊢<;>omega));clear ah;have ah:=qd (VU.out.then hm0);clear VU hm0 hm
   have HB:=qd hB1;clear hB1;have dc:=HD.out.c6;go_wp2_with fail;have hHeld:=dc.2.2.2.1;refine kO hK ?_;clear hK K;refine vW 7 rfl ?_;refine vW 8 rfl ?_;refine nT 9 rfl fun K hK=> ?_;go_simp;refine(Y0 (some ⟨b.2.1,0,none⟩) w1).mono ?_;rintro y w2 ⟨rfl,rfl⟩;go_wp2_with fail;have hHeld:=dc.2.2.2.1;refine kO hK ?_;clear hK K;refine nT 10 rfl fun K hK=> ?_;go_simp;have q7:=qJ HD.out.lt (qJ HR.out.lt (qJ HT.out.aW (qJ HT.out.aX ah.out.size)));refine eB 178 #[.pointer (some ⟨b.2.1,0,none⟩)] ?_;rintro w3 ⟨hnew,hb⟩;obtain⟨xb,hxb⟩:∃xb,xb=w1.heap.size:=⟨_,rfl⟩;rw[←hxb]at hnew⊢
   replace hxb:w1.heap.size≤xb:=by omega
   clear dc;replace HD:=qB hb HD;replace HR:=qB hb HR;replace HT:=qB hb HT;replace HO:=qB hb HO;replace HB:=qd (HB.out.mod (Mod.of_below hb []) (by simp));have z12:=(hb).size;replace ah:=qT ah hb;have HX:=qd (hnew);clear hnew hb;have dc:=HD.out.c6;have xc0:=HX.out.cell 0;simp only[List.getElem?_toArray,List.getElem?_cons_zero]at xc0;have hHeld:=dc.2.2.2.1;refine kO hK ?_;clear hK K;refine nT 11 rfl fun K hK=> ?_;refine dN (by rfl) (by rfl) lU HO.out (by rfl) (by rfl) (rO (size:=1) (m:=1) HX.out (by rfl)) (by rfl) (by omega) (by have:=ah.out.size;omega) ?_;intro v4 w4 dM iI;have hown5:w4.ownsRow w.heap.size 178 1 v4 (j+1) (ptrs ((bl.take (j+1)).map fun b=>b.2.1)):=HPs.out▸dM;clear dM;obtain⟨A4,vc4,rfl⟩:=aU hown5;have hb4:=iI.below;clear HX HO dc xc0;replace HD:=qd (HD.out.mod (mq hb4) (by simp[List.mem_range'_1]<;>omega));replace HR:=qd (HR.out.mod (mq hb4) (by simp[List.mem_range'_1]<;>omega));replace HT:=qd (HT.out.mod (mq hb4) (by simp[List.mem_range'_1]<;>omega) (by simp[List.mem_range'_1]<;>omega));replace HB:=qd (HB.out.mod (mq hb4) (fun b hb=>by have hh:=hne b hb;simp[List.mem_range'_1]<;>omega));have z13:=(hb4).size;replace ah:=qd (ah.out.trans (mq hb4) (fun _ hh _=>hh) (by intro k hk hl;simp[List.mem_range'_1]at hk;omega));have HO:=qd hown5;clear hown5 hb4;have dc:=HD.out.c6;have df:=HD.out.f6;have hHeld:=dc.2.2.2.1;refine kO hK ?_;clear hK K;refine vW 12 rfl ?_;refine vW 13 rfl ?_;refine nT 14 rfl fun K hK=> ?_;go_simp;refine kO hK ?_;clear hK K
   refine aY (by kernel_rfl) ?_ _;have q14:=qJ HD.out.lt (qJ HR.out.lt (qJ HT.out.aW HT.out.aX));refine Hy HD.out ?_;rintro w5 ⟨hnew,hm⟩;simp only[pt]at hnew;replace HR:=qM hm HR;replace HT:=qM hm HT;replace HB:=qd (HB.out.mod hm (fun b hb=>by have hh:=hne b hb;simp<;>omega));replace HO:=qM hm HO;have z18:=(hm).size;replace ah:=qd (ah.out.trans hm (fun _ hh _=>hh) (by intro k hk hl;simp[bI]at hk⊢<;>omega));replace HD:=qd hnew;clear hnew hm;go_wp2;go_roundw
   case rel=>exact⟨j+1,by omega,by go_num,_,HD.out,HO.out,HR.out,HT.out,HB.out,ah.out⟩
   case measure=>simp[intOf];omega
  ·obtain rfl:j=bl.length:=by omega
   have hlt':¬(bl.length:Int)<(bl.length:Int):=by omega
   rw[List.take_length]at hO;obtain⟨fb,rfl,iB,hfr,_⟩:=fQ.eO hO (by omega);have HD:=qd (hD);have HR:=qd (hR);have HT:=qd (hT);have HB:=qd (hB);have HF:=qd (hfr);have ah:=qd (hm);clear hD hO hR hT hB hfr hm;have z1:=qJ ah.out.size (qJ HD.out.lt (qJ HR.out.lt (qJ HT.out.aW (qJ HT.out.aX HF.out.lt))));go_upto_region 5 with fail;have dc:=HD.out.c6;have V9:=qd (Zd ob fb vc depth (bl.map fun b:Nat×Nat×Nat=>b.2.1) (by rw[List.length_map];exact⟨n1,n2⟩) DJ.out wr.drew (HF.out.mod (Mod.drewN [] wr 1) (by simp)));rw[List.length_map]at V9;refine rT (fun(w':World)=>w'.cell? ⟨db,0,none⟩=some (.pointer (some ⟨ob,0,none⟩))∧w'.cell? ⟨db,1,none⟩=some (.int .i64 (depth:Int))∧w'.cell? ⟨db,3,none⟩=some (.slice (some ⟨fb,0,none⟩) bl.length vc)) [19] ?_;have hHeld:=(⟨dc.1,dc.2.1,dc.2.2.2.1⟩:_∧_∧_);refine vW 0 rfl ?_;refine vW 1 rfl ?_;refine vW 2 rfl ?_;refine vW 3 rfl ?_;refine vT 4 rfl ?_;refine vW 5 rfl ?_;refine vW 6 rfl ?_;refine vW 7 rfl ?_;refine vT 8 rfl ?_;refine vW 9 rfl ?_;refine vW 10 rfl ?_;refine vW 11 rfl ?_;refine vT 12 rfl ?_;refine nT 13 rfl fun K hK=> ?_;go_simp;refine(V9.out).mono ?_;rintro y w1 ⟨eb,vb,c2,KV,hvb,hev,rfl,KT,hb⟩;replace hb:Below wr.heap.size wr w1:=bX hb (Below.refl _ _).drew;replace KV:wr.heap.size≤eb:=KV;replace hvb:wr.heap.size≤vb:=hvb;clear V9 dc;replace HD:=qB hb HD;replace HR:=qB hb HR;replace HT:=qB hb HT;replace HB:=qd (HB.out.mod (Mod.of_below hb []) (by simp));replace HF:=qB hb HF;have z7:=(hb).size;replace ah:=qT ah hb;have HE:=qd (KT);clear KT hb
   have dc:=HD.out.c6;go_wp2_with fail;have hHeld:=(⟨dc.1,dc.2.1,dc.2.2.2.1⟩:_∧_∧_);refine kO hK ?_;clear hK K;refine vW 14 rfl ?_;refine vW 15 rfl ?_;refine nT 16 rfl fun K hK=> ?_;go_simp;refine(VP (some ⟨eb,0,none⟩) w1).mono ?_;rintro y w2 ⟨rfl,rfl⟩;go_wp2_with fail;have hHeld:=(⟨dc.1,dc.2.1,dc.2.2.2.1⟩:_∧_∧_);refine kO hK ?_;clear hK K;refine vW 17 rfl ?_;refine vW 18 rfl ?_;refine nT 19 rfl fun K hK=> ?_;have dc:=HD.out.c6;have df:=HD.out.f6;go_simp;refine kO hK ?_;clear hK K;refine aY (by kernel_rfl) ?_ _;have q8:=qJ HD.out.lt (qJ HR.out.lt (qJ HT.out.aW (qJ HT.out.aX (qJ HF.out.lt (qJ HE.out.lt HE.out.qh)))));refine Hy HD.out ?_;rintro w3 ⟨hnew,hm⟩;simp only[pt]at hnew;replace HR:=qM hm HR;replace HT:=qM hm HT;replace HB:=qd (HB.out.mod hm (fun b hb=>by have hh:=hne b hb;simp<;>omega));replace HF:=qM hm HF;replace HE:=qM hm HE;have z15:=(hm).size;replace ah:=qd (ah.out.trans hm (fun _ hh _=>hh) (by intro k hk hl;simp[bI]at hk⊢<;>omega));replace HD:=qd hnew;clear hnew hm;have acA:=II.out;have hd4:∀b∈bl,_:=hne
   have Wd:pE w3 db rb cap ob og fb vc eb vb c2 (bl.map fun b=>b.1) (iL bl) T (List.replicate bl.length (dZ n n)) n depth 0:=by
    have hlt1:(bl.map fun b=>b.1).length=bl.length:=List.length_map ..;have hlt2:(iL bl).length=bl.length:=List.length_map ..;refine⟨by rw[hlt1,hlt2];exact HD.out,HR.out,fun q hq=> ?_,by rw[IG];exact HF.out,by rw[IG];exact HE.out,HT.out,HB.out.acy acA,KU.out,by rw[hlt2];exact⟨n1,n2⟩,by rw[hlt1,hlt2],DJ.out, ?_⟩
    ·obtain⟨b,hb,rfl⟩:=List.mem_map.1 hq;obtain⟨i,hi⟩:=List.getElem?_of_mem hb;exact HB.out.done i b hi (List.getElem?_eq_some_iff.1 hi).1
    ·have hlow:∀q∈bl.map (fun b=>b.1)++gI (iL bl),q<w.heap.size∧db≠q∧rb≠q∧ob≠q∧og≠q:=fun q hq=>by
      obtain⟨b,hb,Aw⟩:=List.mem_flatMap.1 (ze hq);have hh:=hne b hb;simp[bA]at Aw
      rcases Aw with rfl|rfl|rfl<;>omega
     unfold aT;simp only[List.nodup_cons,List.mem_cons,not_or]
     have hz:∀q,(q=db∨q=rb∨q=ob∨q=og∨w.heap.size≤q)→q∉bl.map (fun b=>b.1)++gI (iL bl):=fun q hq hm=>by
      have:=hlow q hm;omega
     refine⟨⟨by omega,by omega,by omega,by omega,by omega,by omega,hz _ (by omega)⟩,⟨by omega,by omega,by omega,by omega,by omega,hz _ (by omega)⟩,⟨by omega,by omega,by omega,by omega,hz _ (by omega)⟩,⟨by omega,by omega,by omega,hz _ (by omega)⟩,⟨by omega,by omega,hz _ (by omega)⟩,⟨by omega,hz _ (by omega)⟩,hz _ (by omega),(zI bl).nodup_iff.1 acA⟩
   go_wp2;go_end0
   first|exact⟨rfl,fb,vc,eb,vb,⟨c2,Wd⟩,iB,by omega,by omega,ah.out⟩|exact⟨rfl,fb,vc,eb,vb,c2,Wd,iB,by omega,by omega,ah.out⟩
end
theorem Ms {W0:World}{E:Nat→Addr}(db rb cap ob og fb bY eb vb cB:Nat)(bL:List Nat)(bs:List (Nat×Nat))(T:aC)(Ts:List aC)(n depth next:Nat)(P:MP)(x:bP)(w:World)(h:pE w db rb cap ob og fb bY eb vb cB bL bs T Ts n depth next)
  (hok:mO T) (hn:next<T.gs.length) (hfit:Fits bs.length depth Ts (bR (T.gs.getD next []))) (hM:aQ w P x) (hE:Env W0 E w) (qm:P.mb∉aT db rb fb eb vb ob og bL bs) (hb0:W0.heap.size≤P.mb) (hbf:∀q∈aT db rb fb eb vb ob og bL bs,W0.heap.size≤q):
  Calls Tryz.prog 267 #[dA db,.pointer (some ⟨P.mb,P.mo,none⟩)] w fun e w'=>e= .returned (.bool true)∧pE w' db rb cap ob og fb bY eb vb cB bL bs (takeN T next 8) (fA bs.length depth ((x.add (cU 1) 1).add cV 1,Ts) (bR (T.gs.getD next []))).2 n depth (next+1)∧aQ w' P (fA bs.length depth ((x.add (cU 1) 1).add cV 1,Ts) (bR (T.gs.getD next []))).1∧Mod (P.mb::aT db rb fb eb vb ob og bL bs) w w':=by
 have hnd:=h.nd;unfold aT at hnd qm hbf;simp only[List.nodup_cons,List.mem_cons,not_or,List.nodup_append,List.mem_append]at hnd qm;obtain⟨⟨d1,d2,d3,d4,d5,d6,d7,d8⟩,⟨r1,r2,r3,r4,r5,r6,r7⟩,⟨f1,f2,f3,f4,f5,f6⟩,⟨e1,e2,e3,e4,e5⟩,⟨v1,v2,v3,v4⟩,⟨o1,o2,o3⟩,⟨g1,g2⟩,hn1,hn2,hn3⟩:=hnd;obtain⟨m1,m2,m3,m4,m5,m6,m7,m8,m9⟩:=qm;have hfl:∀b∈bs,b.1∈gI bs∧b.2∈gI bs:=fun b hb=>⟨dV.2 ⟨b,hb,.inl rfl⟩,dV.2 ⟨b,hb,.inr rfl⟩⟩
 have hS:=VT (W0:=W0) (E:=E) eb ob og vb cB depth next bs T Ts P x h.many h.deep w h.ev h.tab hok hn h.tabs hfit hM hE
  (fun b hb=>by
   obtain⟨q1,q2⟩:=hfl b hb;simp only[List.mem_cons,List.not_mem_nil,or_false,not_or]
   exact⟨⟨fun e=>m9 (e▸q1),fun e=>e5 (e▸q1),fun e=>v4 (e▸q1),fun e=>o3 (e▸q1),fun e=>g2 (e▸q1)⟩,⟨fun e=>m9 (e▸q2),fun e=>e5 (e▸q2),fun e=>v4 (e▸q2),fun e=>o3 (e▸q2),fun e=>g2 (e▸q2)⟩⟩)
  (by simp;omega) (by simp;omega) (by simp;omega) hb0 (hbf _ (by simp)) (hbf _ (by simp)) (hbf _ (by simp)) (fun b hb=>⟨hbf _ (by simp[hfl b hb]),hbf _ (by simp[hfl b hb])⟩)
 have bc3:=h.blk.cell 3;have bc4:=h.blk.cell 4;simp only[gl]at bc3 bc4;have kY:=qd (uI db fb bs.length bY w bc3);have HS:=qd hS;have HH:=qd h;unfold dA at kY⊢;clear h hS hfit;go_in;go_wp2_with fail;refine(kY.out).mono ?_;rintro y w1 ⟨rfl,rfl⟩;go_wp2_with fail;refine(HS.out).mono ?_;rintro y w1 ⟨rfl,KT,hT,hTs,hM1,hm⟩
 have HF:=qd (show pE w1 db rb cap ob og fb bY eb vb cB bL bs (takeN T next 8) (fA bs.length depth ((x.add (cU 1) 1).add cV 1,Ts) (bR (T.gs.getD next []))).2 n depth (next+1)from by
  have hap:∀q,q≠P.mb→q≠eb→q≠ob→q≠og→q∉gI bs→q∉P.mb::eb::ob::og::gI bs:=fun q a1 a2 a3 a4 a5=>by simp only[List.mem_cons,not_or];exact⟨a1,a2,a3,a4,a5⟩
  refine⟨HH.out.blk.mod hm (hap _ (by omega) (by omega) (by omega) (by omega) (by assumption)),HH.out.row.mod hm (hap _ (by omega) (by omega) (by omega) (by omega) (by assumption)),fun b hb=>(HH.out.qx b hb).mod hm (hap _ (fun e=>m8 (e▸hb)) (fun e=>e4 (e▸hb)) (fun e=>o2 (e▸hb)) (fun e=>g1 (e▸hb)) (fun hq=>hn3 b hb b hq rfl)),
   HH.out.fresh.mod hm (hap _ (by omega) (by omega) (by omega) (by omega) (by assumption)),KT,hT,hTs,HH.out.pow,HH.out.many,HH.out.eq,HH.out.deep,HH.out.nd⟩)
 have HM:=qd (hm.more (T:=P.mb::aT db rb fb eb vb ob og bL bs) (by intro q hq;unfold aT;simp only[List.mem_cons,List.mem_append]at hq⊢;rcases hq with h|h|h|h|h<;>simp[h]));have Vl:=qd hM1;clear KT hT hTs hM1 hm;go_wp2;go_ret;exact⟨rfl,HF.out,Vl.out,HM.out⟩
section
theorem Oi {n k j:Nat}(h:(j+1)*n≤k):ql n k j=n:=by
 have:=Nat.add_one_mul j n;unfold ql;omega
theorem Zf {n k j:Nat}(h:k<(j+1)*n)(h2:j*n≤k):ql n k j=k-j*n∧k-j*n<n:=by
 have:=Nat.add_one_mul j n;unfold ql;omega
theorem Zg {n k j:Nat}(h:k<(j+1)*n)(h2:j*n≤k)(i:Nat):ql n (k+1) i=if i=j then ql n k j+1 else ql n k i:=by
 have h3:=Nat.add_one_mul j n;by_cases hij:i=j
 ·subst hij;rw[if_pos rfl];unfold ql;omega
 ·rw[if_neg hij];unfold ql;rcases Nat.lt_or_ge i j with hlt|hge
  ·have h4:=Nat.mul_le_mul_right n (show i+1≤j from hlt);have h5:=Nat.add_one_mul i n;omega
  ·have h4:=Nat.mul_le_mul_right n (show j+1≤i by omega);omega
section
variable {w w' : World} {db rb cap ob og : Nat} {bl : List (Nat × Nat × Nat)} {T : aC} {n depth k j mb : Nat}
theorem adP {b c:Nat×Nat×Nat}(hnd:(bI db rb ob og bl).Nodup){i:Nat}(hc:bl[i]?=some c)(hb:bl[j]?=some b)(hne:i≠j):∀q∈bA c,q∉bA b:=by
 unfold bI at hnd;simp only[List.nodup_cons]at hnd;exact BK (f:=bA) hnd.2.2.2.2 hc hb hne
theorem vB.stepped (h:vB w db rb cap ob og bl T n depth k){b:Nat×Nat×Nat}(hb:bl[j]?=some b)(hk1:k<(j+1)*n)(hk2:j*n≤k)(hB:gy w' b.1 b.2.1 b.2.2 n (ql n k j+1))(hm:Mod [mb,b.1,b.2.1,b.2.2] w w')(hmb:mb∉bI db rb ob og bl):
  aj w' db 281 #[.pointer (some ⟨ob,0,none⟩),.int .i64 (depth:Int),.slice (some ⟨rb,0,none⟩) bl.length cap,.slice none 0 0,.pointer none,.bool false]∧fQ w' rb (bl.map fun b=>b.1)∧TabAt w' ob og T∧∀(i:Nat) (c:Nat×Nat×Nat),bl[i]?=some c→gy w' c.1 c.2.1 c.2.2 n (ql n (k+1) i):=by
 have hnd:=h.nd;unfold bI at hnd;simp only[List.nodup_cons,List.mem_cons,not_or]at hnd;obtain⟨⟨d1,d2,d3,d4⟩,⟨r1,r2,r3⟩,⟨o1,o2⟩,g1,hn⟩:=hnd;have pq:=List.mem_of_getElem? hb;have hin:∀q∈bA b,q∈bl.flatMap fun b=> [b.1,b.2.1,b.2.2]:=fun q hq=>List.mem_flatMap.2 ⟨b,pq,hq⟩
 have hS:∀q,q≠mb→q∉(bl.flatMap fun b=> [b.1,b.2.1,b.2.2])→q∉[mb,b.1,b.2.1,b.2.2]:=fun q h1 h2 h3=>by
  rcases List.mem_cons.1 h3 with e|e
  ·exact h1 e
  ·exact h2 (hin q e)
 have hne:∀q∈bI db rb ob og bl,q≠mb:=fun q hq e=>hmb (e▸hq);refine⟨h.blk.mod hm (hS _ (hne _ (by simp[bI])) d4),h.row.mod hm (hS _ (hne _ (by simp[bI])) r3),h.tab.mod hm (hS _ (hne _ (by simp[bI])) o2) (hS _ (hne _ (by simp[bI])) g1),fun i c hc=> ?_⟩;rw[Zg hk1 hk2];by_cases hij:i=j
 ·subst hij;rw[hb]at hc;cases hc;rw[if_pos rfl];exact hB
 ·rw[if_neg hij];have ha:=adP h.nd hc hb hij;obtain⟨m1,m2,m3⟩:=vD (db:=db) (rb:=rb) (ob:=ob) (og:=og) (List.mem_of_getElem? hc)
  have hz:∀q∈bA c,q≠mb→q∉[mb,b.1,b.2.1,b.2.2]:=fun q h1 h2 h3=>by
   rcases List.mem_cons.1 h3 with e|e
   ·exact h2 e
   ·exact ha q h1 e
  exact(h.qx i c hc).mod hm (hz _ (by simp[bA]) (hne _ m1)) (hz _ (by simp[bA]) (hne _ m2)) (hz _ (by simp[bA]) (hne _ m3))
end
theorem Mt {W0:World}{E:Nat→Addr}(db rb cap ob og:Nat)(bl:List (Nat×Nat×Nat))(T:aC)(n depth k:Nat)(P:MP)(x:bP)(w:World)(h:vB w db rb cap ob og bl T n depth k)
  (hM:aQ w P x) (hE:Env W0 E w) (hmF:P.mb∉bI db rb ob og bl) (hb0:W0.heap.size≤P.mb) (hbF:∀q∈bI db rb ob og bl,W0.heap.size≤q):
  Calls Tryz.prog 267 #[dA db,.pointer (some ⟨P.mb,P.mo,none⟩)] w fun e w'=>e= .returned (.bool true)∧aQ w' P ((x.add cV 1).add (cU 1) 1)∧Mod (P.mb::bI db rb ob og bl) w w'∧(if k+1=n*bl.length then∃fb bY eb vb cB,pE w' db rb cap ob og fb bY eb vb cB (bl.map fun b=>b.1) (iL bl) T (List.replicate bl.length (dZ n n)) n depth 0∧w.heap.size≤fb∧w.heap.size≤eb∧w.heap.size≤vb else vB w' db rb cap ob og bl T n depth (k+1)):=by
 have hml:=hM.lt;have HH:=qd h;have hle:=h.pow.le;have hpos:=h.pow.pos;have agh:=h.lt;obtain⟨n1,n2⟩:=h.many;have bc2:=h.blk.cell 2;have bc3:=h.blk.cell 3;simp only[gl]at bc2 bc3;have kY:=qd (wh db w bc3);have HM:=qd hM;have HE:=qd hE;unfold dA at kY⊢;clear h hM hE;go_in;go_wp2_with fail;refine(kY.out).mono ?_;rintro y w1 ⟨rfl,rfl⟩;go_wp2;clear bc2 bc3 kY;go_loopw [4,5,6,20] (fun _ _ _ i wr=>∃j:Nat,j≤bl.length∧i= .int .i64 j∧j*n≤k∧Below w.heap.size w wr) (fun _ _ _ i _=>bl.length-(intOf i).toNat)
 case atStart=>exact⟨0,by omega,rfl,by omega,Below.refl _ _⟩
 case round=>
  obtain⟨j,hj,rfl,hjk,hb⟩:=hrel;by_cases hlt:j<bl.length
  ·have hlt':(j:Int)<(bl.length:Int):=by omega
   have hj0:(0:Int)≤(j:Int):=by omega
   obtain⟨b,hbi⟩:∃b,bl[j]?=some b:=⟨_,List.getElem?_eq_getElem hlt⟩;have pq:=List.mem_of_getElem? hbi;have hD:=HH.out.mod (Mod.of_below hb []) (by simp);have hrw:=hD.row.at_ j b.1 (by rw[List.getElem?_map,hbi];rfl);have Oj:=hD.qx j b hbi;by_cases hfull:(j+1)*n≤k
   ·rw[Oi hfull]at Oj;have HC:=qd (Mh b.1 b.2.1 b.2.2 n (.pointer (some ⟨P.mb,P.mo,none⟩)) wr Oj);have HB:=qd hb;unfold oG at HC;clear hbi hD Oj hb;go_wp2_with fail;refine(HC.out).mono ?_;rintro y w2 ⟨rfl,hb2⟩;have HB2:=qd (HB.out.trans (hb2.mono HB.out.size));clear hb2;go_wp2;go_roundw
    case rel=>exact⟨j+1,by omega,by go_num,hfull,HB2.out⟩
    case measure=>simp[intOf];omega
   ·have hpart:k<(j+1)*n:=by omega
    obtain⟨hko,hkn⟩:=Zf hpart hjk;have hmul:=Nat.add_one_mul j n;have hbf:=hbF;have qm:=hmF;obtain⟨q1,q2,q3⟩:=vD (db:=db) (rb:=rb) (ob:=ob) (og:=og) pq;have hne:∀q∈bI db rb ob og bl,P.mb≠q:=fun q hq e=>qm (e▸hq);have HC:=qd (TB (W0:=W0) (E:=E) b.1 b.2.1 b.2.2 n (ql n k j) P x (by omega) wr Oj (HM.out.below hb) (HE.out.next hb) (hne _ q1) (hne _ q2) (hne _ q3) hb0 (hbf _ q1) (hbf _ q2) (hbf _ q3));have HD:=qd hD;have HB:=qd hb;have FE:=qd hbi;unfold oG at HC;clear hbi hD Oj hb;go_wp2_with fail;refine(HC.out).mono ?_;rintro y w2 ⟨rfl,hB2,hM2,hm⟩;have hpc:=HD.out.stepped FE.out hpart hjk hB2 hm qm;have Ay:=qd hpc;have Wh:=qd hM2;have HB2:=qd hB2;have hmt:Mod (P.mb::bI db rb ob og bl) w w2:=(Mod.of_below HB.out _).then (hm.more (by intro q hq;simp only[List.mem_cons,List.not_mem_nil,or_false]at hq⊢;rcases hq with rfl|rfl|rfl|rfl;exact .inl rfl;exact .inr q1;exact .inr q2;exact .inr q3));have tQ:=qd hmt;have bc2:=hpc.1.cell 2;simp only[gl]at bc2;have hnl:n*bl.length=bl.length*n:=Nat.mul_comm _ _;clear hpc hmt hM2 hm hB2;by_cases hlast:j+1=bl.length
    ·have hjl:(j:Int)=(bl.length:Int)-1:=by omega
     have hlm:bl.length*n=(j+1)*n:=by rw[hlast]
     have jC:=qd (sQ b.1 n (ql n k j+1) _ w2 HB2.out.le hle HB2.out.blk);unfold oG at jC;obtain⟨dl,hdl⟩:∃dl,dl=n-(ql n k j+1):=⟨_,rfl⟩;rw[←hdl]at jC;by_cases hall:k+1=n*bl.length
     ·have hd0:dl=0:=by omega
      have hbg:∀(i:Nat) (q:Nat×Nat×Nat),bl[i]?=some q→gy w2 q.1 q.2.1 q.2.2 n n:=fun i q hq=>by
       have hi:=(List.getElem?_eq_some_iff.1 hq).1;have h1:=Ay.out.2.2.2 i q hq;have h2:=Nat.mul_le_mul_right n (show i+1≤bl.length by omega)
       rwa [Oi (by omega)]at h1
      have hBg:xZ w2 bl n 0:=⟨fun i q hq _=>hbg i q hq,fun i q _ hi=>by omega,fun i q hq=>(hbg i q hq).tab⟩;have zf:=qd (fun V (hV:Mod [] w2 V)=>TM db rb cap ob og bl T n depth ⟨n1,n2⟩ HH.out.deep HH.out.pow HH.out.nd V (Ay.out.1.mod hV (by simp)) (Ay.out.2.1.mod hV (by simp)) (Ay.out.2.2.1.mod hV (by simp) (by simp)) (hBg.mod hV (by simp)));unfold dA at zf;rw[hd0]at jC;clear hbg hBg hdl hd0;go_wp2_with fail;refine(jC.out).mono ?_;rintro y w3 ⟨rfl,hw3⟩;have iZ:Mod [] w2 w3:=hw3▸Mod.drewN [] w2 1;have HB3:=qd (zf.out w3 iZ);have NH:=qd (Wh.out.mod iZ (by simp));have aeo:=qd (tQ.out.then (iZ.more (by simp)));have kZ:=qd iZ.size;have HS4:=qd tQ.out.size;clear hw3 iZ;go_wp2_with fail;refine(HB3.out).mono ?_;rintro y w4 ⟨rfl,fb,bY,eb,vb,hrest⟩;have ng:=qd hrest;clear hrest;go_wp2;go_ret;obtain⟨cB,Wd,iB,KV,hvb,kS⟩:=ng.out;have hs3:=kZ.out;have hs4:=HS4.out;refine⟨rfl,NH.out.mod kS qm,aeo.out.then (kS.more (fun q hq=>List.mem_cons_of_mem _ hq)), ?_⟩
      try rw[if_pos hall]
      exact⟨fb,bY,eb,vb,by first|exact⟨cB,Wd,by omega,by omega,by omega⟩|exact⟨⟨cB,Wd⟩,by omega,by omega,by omega⟩⟩
     ·have hd0:¬(dl:Int)=0:=by omega
      have hd1:¬dl=0:=by omega
      clear hdl;go_wp2_with fail;refine(jC.out).mono ?_;rintro y w3 ⟨rfl,hw3⟩;have HW3:=qd (show Mod [] w2 w3 from hw3▸Mod.drewN [] w2 1);clear hw3;go_wp2;go_ret;refine⟨rfl,Wh.out.mod HW3.out (by simp),tQ.out.then (HW3.out.more (by simp)), ?_⟩
      try rw[if_neg hall]
      exact⟨Ay.out.1.mod HW3.out (by simp),Ay.out.2.1.mod HW3.out (by simp),fun i q hq=>(Ay.out.2.2.2 i q hq).mod HW3.out (by simp) (by simp) (by simp),Ay.out.2.2.1.mod HW3.out (by simp) (by simp),HH.out.pow,HH.out.many,by omega,HH.out.deep,HH.out.nd⟩
    ·have hjl:¬(j:Int)=(bl.length:Int)-1:=by omega
     have h2:=Nat.mul_le_mul_right n (show j+1+1≤bl.length by omega);have h3:=Nat.add_one_mul (j+1) n
     have hall:¬k+1=n*bl.length:=by omega
     go_wp2;go_ret;refine⟨rfl,Wh.out,tQ.out, ?_⟩
     try rw[if_neg hall]
     exact⟨Ay.out.1,Ay.out.2.1,Ay.out.2.2.2,Ay.out.2.2.1,HH.out.pow,HH.out.many,by omega,HH.out.deep,HH.out.nd⟩
  ·exfalso
   obtain rfl:j=bl.length:=by omega
   have:=Nat.mul_comm bl.length n;omega
end
end Go.Proofs.YtbfpfgfgfjhpfaaGreatDoor
