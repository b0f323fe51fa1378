/- An evacuation's New by its contract. -/
import Derived.Test.YtgiaobmcbbfmnaaGreatDoorCoAL
import Derived.Test.YtgiaobmcbbfmnaaGreatDoorSq
import Derived.Test.YtgiaobmcbbfmnaaGreatDoorKit2
import Derived.Test.YtgiaobmcbbfmnaaGreatDoorSqT
namespace Go.Proofs.YtgiaobmcbbfmnaaGreatDoor
set_option maxRecDepth 100000
set_option maxHeartbeats 8000000
open Go.RowKit dw
theorem TL (rb cap:Nat)(ts:List Nat)(hn:1≤ts.length∧ts.length≤2)(w:World)(h:eP w rb ts):
  Calls Tryz.prog 313 #[.slice (some ⟨rb,0,none⟩) ts.length cap] w fun e w'=>∃nL c',w.heap.size≤nL∧e= .returned (.slice (some ⟨nL,0,none⟩) ts.length c')∧eP w' nL ts∧Below w.heap.size w w':=by
 have HR:=qd h.reads;obtain⟨n1,n2⟩:=hn
 have hnn:(Go.binOp .eql 314 (.slice (some ⟨rb,0,none⟩) ts.length cap) (.slice none 0 0)).run Tryz.prog w= .ok (.bool false) w:=by first|rfl|kernel_rfl|simp[Go.binOp,go_sem]
 clear h;go_in;go_wp2_with (at_builtin;refine Ig rfl rfl kZ (World.ownsRow_lit w #[] 0 (Nat.le_refl _) (by simp) rfl) rfl rfl (HR.out.alloc (Nat.le_refl _) _) (yt ts) (by omega) (by simp) ?_;intro v4 w4 dh hg4);rw[Nat.zero_add]at dh;obtain⟨A4,c4,rfl⟩:=bA dh;go_ret;obtain⟨nL,rfl,qL,hrow,_⟩:=eP.eF (show w4.ownsRow w.heap.size 167 1 (.slice A4 ts.length c4) ts.length (ptrs ts)from by simpa using dh) (by omega);have hB:Below w.heap.size w w4:=((Below.refl _ _).alloc (Nat.le_refl _) _).trans hg4.below
 first|exact⟨nL,qL,⟨_,rfl⟩,hrow,hB⟩|exact⟨nL,_,qL,rfl,hrow,hB⟩
theorem Zk (tb rb cap depth:Nat)(ts:List Nat)(hn:1≤ts.length∧ts.length≤2)(hd:depth≤15)(w:World)(h:eP w rb ts):
  Calls Tryz.prog 309 #[.pointer (some ⟨tb,0,none⟩),.int .i64 (depth:Int),.slice (some ⟨rb,0,none⟩) ts.length cap] w fun e w'=>∃eb vb c2,w.heap.size≤eb∧w.heap.size≤vb∧eb≠vb∧e= .returned (.tuple #[.pointer (some ⟨eb,0,none⟩),.nilIface])∧lG w' eb tb vb c2 ts depth 0∧Below w.heap.size w w':=by
 obtain⟨n1,n2⟩:=hn;have HC:=qd (contains_nil rb cap ts n2 w h);have HK:=qd (TL rb cap ts ⟨n1,n2⟩ w h)
 have hnl:ts.length=1∨ts.length=2:=by omega
 have hd0:¬(depth:Int)<0:=by omega
 have hd1:¬(depth:Int)>15:=by omega
 clear h;obtain⟨n,hnn⟩:∃n,n=ts.length:=⟨_,rfl⟩;have HNn:=qd hnn;rw[←hnn]at HC HK hnl n1 n2;simp only[←hnn];clear hnn;rcases hnl with rfl|rfl
 all_goals
  go_in;go_wp2_with fail;refine(HC.out).mono ?_;rintro y w1 ⟨rfl,rfl⟩;go_wp2_with fail;refine(HK.out).mono ?_;rintro y w2 ⟨vb,c2,hvb,rfl,hrow,hb⟩;have hvl:=hrow.lt;have RG:=qd (aj.new w2 356 #[.pointer (some ⟨tb,0,none⟩),.slice (some ⟨vb,0,none⟩) ts.length c2,.int .i64 (depth:Int),.int .i64 0]);have HE:=qd (And.intro (hrow.mod (Mod.of_below ((Below.refl w2.heap.size w2).alloc (Nat.le_refl _) (.cells #[.pointer (some ⟨tb,0,none⟩),.slice (some ⟨vb,0,none⟩) ts.length c2,.int .i64 (depth:Int),.int .i64 0] 356)) []) (by simp)) (hb.alloc hb.size (.cells #[.pointer (some ⟨tb,0,none⟩),.slice (some ⟨vb,0,none⟩) ts.length c2,.int .i64 (depth:Int),.int .i64 0] 356)));rw[←HNn.out]at RG HE;have hbs:=hb.size;clear hrow hb;go_wp2;refine bodyPost_ret (v:= .tuple #[.pointer (some ⟨w2.heap.size,0,none⟩),.nilIface]) (by simp[results,Tryz.results309,go_sem]) rfl ?_;have KX:lG (w2.alloc (.cells #[.pointer (some ⟨tb,0,none⟩),.slice (some ⟨vb,0,none⟩) _ c2,.int .i64 (depth:Int),.int .i64 0] 356)) w2.heap.size tb vb c2 ts depth 0:=⟨by rw[←HNn.out];exact RG.out,HE.out.1⟩
  first|exact⟨w2.heap.size,vb,c2,hbs,hvb,by omega,rfl,KX,HE.out.2⟩|exact⟨w2.heap.size,hbs,vb,hvb,by omega,rfl,c2,KX,HE.out.2⟩
section
variable {w w' : World} {α : Type} {j n : Nat} {bl : List (Nat × Nat × Nat)}
theorem lH {B:Nat}(h:Below B w w'):Mod (List.range' B (w.heap.size-B)) w w':=
 ⟨h.os,h.tape,h.output,h.size,fun k hk hn=>h.block k (by simp[List.mem_range'_1]at hn;omega)⟩
theorem BF {f:α→List Nat}{l:List α}(h:(l.flatMap f).Nodup){i:Nat}{a b:α}(hi:l[i]?=some a)(hj:l[j]?=some b)(hne:i≠j):∀x∈f a,x∉f b:=by
 obtain⟨hi',rfl⟩:=List.getElem?_eq_some_iff.1 hi;obtain⟨hj',rfl⟩:=List.getElem?_eq_some_iff.1 hj;have hp:=List.pairwise_iff_getElem.1 (List.pairwise_flatMap.1 h).2;intro x hx hy;rcases Nat.lt_or_ge i j with hlt|hge
 ·exact hp i j hi' hj' hlt x hx x hy rfl
 ·exact hp j i hj' hi' (by omega) x hy x hx rfl
theorem Zl {f:α→List Nat}{l:List α}(h:(l.flatMap f).Nodup){a:α}(ha:a∈l):(f a).Nodup:=(List.pairwise_flatMap.1 h).1 a ha
structure yu (w:World)(bl:List (Nat×Nat×Nat))(n j:Nat):Prop where
 IW:∀(i:Nat) (b:Nat×Nat×Nat),bl[i]?=some b→j≤i→fG w b.1 b.2.1 b.2.2 n n
 done:∀(i:Nat) (b:Nat×Nat×Nat),bl[i]?=some b→i<j→aj w b.1 363 #[.pointer none,.int .i64 (n:Int),.int .i64 (n:Int)]
 tabs:∀(i:Nat) (b:Nat×Nat×Nat),bl[i]?=some b→TabAt w b.2.1 b.2.2 (dM n n)
theorem yu.mod {S:List Nat}(h:yu w bl n j)(hm:Mod S w w')(hs:∀b∈bl,b.1∉S∧b.2.1∉S∧b.2.2∉S):yu w' bl n j:=
 ⟨fun i b hb hj=>by obtain⟨h1,h2,h3⟩:=hs b (List.mem_of_getElem? hb);exact(h.IW i b hb hj).mod hm h1 h2 h3,
  fun i b hb hj=>(h.done i b hb hj).mod hm (hs b (List.mem_of_getElem? hb)).1,
  fun i b hb=>(h.tabs i b hb).mod hm (hs b (List.mem_of_getElem? hb)).2.1 (hs b (List.mem_of_getElem? hb)).2.2⟩
def aX (b:Nat×Nat×Nat):List Nat:=[b.1,b.2.1,b.2.2]
def gY (bl:List (Nat×Nat×Nat)):List (Nat×Nat):=bl.map fun b=>(b.2.1,b.2.2)
theorem zI:∀bl:List (Nat×Nat×Nat),(bl.flatMap aX).Perm (bl.map (fun b=>b.1)++fM (gY bl))
 | []=> .refl _
 |b::t=>by
  have h:=zI t
  have h1:((b::t).flatMap aX)=b.1::([b.2.1,b.2.2]++t.flatMap aX):=by simp[aX]
  have h2:((b::t).map (fun b=>b.1)++fM (gY (b::t)))=b.1::(t.map (fun b=>b.1)++([b.2.1,b.2.2]++fM (gY t))):=by simp[fM,gY]
  rw[h1,h2];refine List.Perm.cons _ ((h.append_left _).trans ?_);rw[←List.append_assoc,←List.append_assoc];exact List.perm_append_comm.append_right _
theorem zq {q:Nat}(h:q∈bl.map (fun b=>b.1)++fM (gY bl)):q∈bl.flatMap aX:=(zI bl).mem_iff.2 h
theorem IX (bl:List (Nat×Nat×Nat)):(gY bl).map Prod.fst=bl.map fun b=>b.2.1:=by simp[gY]
theorem yu.take (h:yu w bl n j)(hnd:(bl.flatMap aX).Nodup){b:Nat×Nat×Nat}(hb:bl[j]?=some b)(hk:aj w' b.1 363 #[.pointer none,.int .i64 (n:Int),.int .i64 (n:Int)])(hm:Mod [b.1] w w'):yu w' bl n (j+1):=by
 have ap:∀(i:Nat) (c:Nat×Nat×Nat),bl[i]?=some c→i≠j→c.1≠b.1∧c.2.1≠b.1∧c.2.2≠b.1:=fun i c hc hne=>by
  have hf:=BF hnd hc hb hne;have h1:=hf c.1 (by simp[aX]);have h2:=hf c.2.1 (by simp[aX]);have h3:=hf c.2.2 (by simp[aX]);simp[aX]at h1 h2 h3;exact⟨h1.1,h2.1,h3.1⟩
 have hb3:=Zl hnd (List.mem_of_getElem? hb);simp[aX]at hb3;refine⟨fun i c hc hj=> ?_,fun i c hc hj=> ?_,fun i c hc=> ?_⟩
 ·obtain⟨h1,h2,h3⟩:=ap i c hc (by omega);exact(h.IW i c hc (by omega)).mod hm (by simpa using h1) (by simpa using h2) (by simpa using h3)
 ·by_cases hij:i=j
  ·subst hij;rw[hb]at hc;cases hc;exact hk
  ·exact(h.done i c hc (by omega)).mod hm (by simpa using(ap i c hc hij).1)
 ·by_cases hij:i=j
  ·subst hij;rw[hb]at hc;cases hc;exact(h.tabs _ _ hb).mod hm (by simp;omega) (by simp;omega)
  ·obtain⟨h1,h2,h3⟩:=ap i c hc hij;exact(h.tabs i c hc).mod hm (by simpa using h2) (by simpa using h3)
theorem yu.acp (h:yu w bl n j)(hnd:(bl.flatMap aX).Nodup):gW w (gY bl) (List.replicate bl.length (dM n n)):=by
 refine⟨by simp[gY],fun i b T hb hT=> ?_,fun i k b c hb hc hne=> ?_⟩
 ·unfold gY at hb;rw[List.getElem?_map]at hb;obtain⟨x,hx,rfl⟩:=Option.map_eq_some_iff.1 hb;have:=List.mem_of_getElem? hT;rw[(List.mem_replicate.1 this).2];exact h.tabs i x hx
 ·unfold gY at hb hc;rw[List.getElem?_map]at hb hc;obtain⟨x,hx,rfl⟩:=Option.map_eq_some_iff.1 hb;obtain⟨y,hy,rfl⟩:=Option.map_eq_some_iff.1 hc;have hf:=BF hnd hx hy hne;have h1:=hf x.2.1 (by simp[aX]);have h2:=hf x.2.2 (by simp[aX]);simp[aX]at h1 h2;exact⟨h1.2.1,h1.2.2,h2.2.1,h2.2.2⟩
theorem Wv {f:α→Nat}{l:List α}{b:α}(h:l[j]?=some b):ptrs ((l.take j).map f)++[.pointer (some ⟨f b,0,none⟩)]=ptrs ((l.take (j+1)).map f):=by
 rw[rF h,List.map_append];simp[ptrs]
theorem TM (db rb cap ob og:Nat)(bl:List (Nat×Nat×Nat))(T:aD)(n depth:Nat)(adr:1≤bl.length∧bl.length≤2)(aaA:depth≤15)(acr:Pw n)(hnd:(bB db rb ob og bl).Nodup)(w:World)(hblk:aj w db 317 #[.pointer (some ⟨ob,0,none⟩),.int .i64 (depth:Int),.slice (some ⟨rb,0,none⟩) bl.length cap,.slice none 0 0,.pointer none,.bool false])(hrow:eP w rb (bl.map fun b=>b.1))(htab:TabAt w ob og T)(hbl:yu w bl n 0):
  Calls Tryz.prog 300 #[dx db] w fun e w'=>e= .returned undef∧∃fb bS eb vb bV,oM w' db rb cap ob og fb bS eb vb bV (bl.map fun b=>b.1) (gY bl) T (List.replicate bl.length (dM n n)) n depth 0∧w.heap.size≤fb∧w.heap.size≤eb∧w.heap.size≤vb∧Mod (bB db rb ob og bl) w w':=by
 obtain⟨n1,n2⟩:=adr;unfold bB at hnd;simp only[List.nodup_cons,List.mem_cons,not_or]at hnd;obtain⟨⟨hd1,hd2,hd3,hd4⟩,⟨hr1,hr2,hr3⟩,⟨ho1,ho2⟩,hg1,hnd'⟩:=hnd;have M0:∀b∈bl,∀q,q=b.1∨q=b.2.1∨q=b.2.2→q∈bl.flatMap fun b=> [b.1,b.2.1,b.2.2]:=fun b hb q hq=>List.mem_flatMap.2 ⟨b,hb,by simpa using hq⟩
 have hne:∀b∈bl,db≠b.1∧db≠b.2.1∧db≠b.2.2∧rb≠b.1∧rb≠b.2.1∧rb≠b.2.2∧ob≠b.1∧ob≠b.2.1∧ob≠b.2.2∧og≠b.1∧og≠b.2.1∧og≠b.2.2∧b.1<w.heap.size∧b.2.1<w.heap.size∧b.2.2<w.heap.size:=fun b hb=>by
  have m1:=M0 b hb b.1 (.inl rfl);have m2:=M0 b hb b.2.1 (.inr (.inl rfl));have m3:=M0 b hb b.2.2 (.inr (.inr rfl));obtain⟨i,hi⟩:=List.getElem?_of_mem hb;have hl:=hbl.IW i b hi (Nat.zero_le _);exact⟨fun e=>hd4 (e▸m1),fun e=>hd4 (e▸m2),fun e=>hd4 (e▸m3),fun e=>hr3 (e▸m1),fun e=>hr3 (e▸m2),fun e=>hr3 (e▸m3),fun e=>ho2 (e▸m1),fun e=>ho2 (e▸m2),fun e=>ho2 (e▸m3),fun e=>hg1 (e▸m1),fun e=>hg1 (e▸m2),fun e=>hg1 (e▸m3),hl.lt,hl.aU,hl.aV⟩
 have OO:=qd (show(bl.flatMap aX).Nodup from hnd');have DK:=qd aaA;have KY:=qd acr;clear hnd' M0 hd4 hr3 ho2 hg1 aaA acr;have HD:=qd (hblk);have HR:=qd (hrow);have HT:=qd (htab);have HB:=qd (hbl);have ah:=qd (Mod.refl (bB db rb ob og bl) w);have q1:=qJ HD.out.lt (qJ HR.out.lt (qJ HT.out.aU HT.out.aV));clear hblk hrow htab hbl;unfold dx;go_in;have dc:=HD.out.c6;go_wp2;clear dc;go_loopw [3,9] (fun _ i wr=>∃j:Nat,j≤bl.length∧i= .int .i64 j∧∃v,aj wr db 317 #[.pointer (some ⟨ob,0,none⟩),.int .i64 (depth:Int),.slice (some ⟨rb,0,none⟩) bl.length cap,v,.pointer none,.bool false]∧wr.ownsRow w.heap.size 167 1 v j (ptrs ((bl.take j).map fun b=>b.2.1))∧eP wr rb (bl.map fun b=>b.1)∧TabAt wr ob og T∧yu wr bl n j∧Mod (bB db rb ob og bl) w wr) (fun _ i _=>bl.length-(intOf i).toNat)
 case atStart=>exact⟨0,by omega,rfl,_,HD.out,by simpa[ptrs]using World.ownsRow_nil w w.heap.size _ 1,HR.out,HT.out,HB.out,ah.out⟩
 case round=>
  clear HD HR HT HB ah;obtain⟨j,hj,rfl,v,hD,hO,hR,hT,hB,hm⟩:=hrel;obtain⟨A,vc,rfl⟩:=bA hO;by_cases hlt:j<bl.length
  ·have hlt':(j:Int)<(bl.length:Int):=by omega
   have hj0:(0:Int)≤(j:Int):=by omega
   obtain⟨b,hb⟩:∃b,bl[j]?=some b:=⟨_,List.getElem?_eq_getElem hlt⟩;have oL:=List.mem_of_getElem? hb;have hbb:=hne b oL;have hrw:=hR.at_ j b.1 (by rw[List.getElem?_map,hb];rfl);have KH:=qd (Wv (f:=fun b:Nat×Nat×Nat=>b.2.1) hb);have FB:=qd hb;clear hb;have HD:=qd (hD);have HR:=qd (hR);have HT:=qd (hT);have HB:=qd (hB);have HO:=qd (hO);have ah:=qd (hm);clear hD hO hR hT hB hm;have z1:=qJ ah.out.size (qJ HD.out.lt (qJ HR.out.lt (qJ HT.out.aU HT.out.aV)));go_upto_region 3 with fail;have dc:=HD.out.c6;refine rT (fun(w':World)=>w'.cell? ⟨db,3,none⟩=some (.slice A j vc)) [14] ?_;have hHeld:=dc.2.2.2.1;refine vW 0 rfl ?_;refine vW 1 rfl ?_;refine vW 2 rfl ?_;refine vW 3 rfl ?_;refine vT 4 rfl ?_;refine vW 5 rfl ?_;refine nT 6 rfl fun K hK=> ?_;go_simp;have kW:=qd (TF b.1 b.2.1 b.2.2 n wr.drew (((HB.out.IW j b FB.out (Nat.le_refl _)).mod (Mod.drewN [] wr 1) (by simp) (by simp) (by simp))));unfold nS cO at kW;refine(kW.out).mono ?_;rintro y w1 ⟨rfl,hk1,_,hm⟩;replace hm:Mod [b.1] wr w1:=(Mod.drewN [b.1] wr 1).then hm;have hB1:=HB.out.take OO.out FB.out hk1 hm;clear kW HB hk1;have hm0:Mod (bB db rb ob og bl) wr w1:=hm.more (by intro q hq;simp at hq;subst hq;exact(vI oL).1);have Wn:=ah;clear ah;have ah:=qd (Mod.refl [b.1] wr);clear hrw dc;replace HD:=qM hm HD;replace HR:=qM hm HR;replace HT:=qM hm HT;replace HO:=qM hm HO;have z6:=(hm).size;replace ah:=qd (ah.out.trans hm (fun _ hh _=>hh) (by intro k hk hl;simp at hk⊢<;>omega));clear ah;have ah:=qd (Wn.out.then hm0);clear Wn hm0 hm
   have HB:=qd hB1;clear hB1;have dc:=HD.out.c6;go_wp2_with fail;have hHeld:=dc.2.2.2.1;refine kO hK ?_;clear hK K;refine vW 7 rfl ?_;refine vW 8 rfl ?_;refine nT 9 rfl fun K hK=> ?_;go_simp;refine(Y7 (some ⟨b.2.1,0,none⟩) w1).mono ?_;rintro y w2 ⟨rfl,rfl⟩;go_wp2_with fail;have hHeld:=dc.2.2.2.1;refine kO hK ?_;clear hK K;refine nT 10 rfl fun K hK=> ?_;go_simp;have q7:=qJ HD.out.lt (qJ HR.out.lt (qJ HT.out.aU (qJ HT.out.aV ah.out.size)));refine dQ 167 #[.pointer (some ⟨b.2.1,0,none⟩)] ?_;rintro w3 ⟨hnew,hb⟩;obtain⟨xb,hxb⟩:∃xb,xb=w1.heap.size:=⟨_,rfl⟩;rw[←hxb]at hnew⊢
   replace hxb:w1.heap.size≤xb:=by omega
   clear dc;replace HD:=qB hb HD;replace HR:=qB hb HR;replace HT:=qB hb HT;replace HO:=qB hb HO;replace HB:=qd (HB.out.mod (Mod.of_below hb []) (by simp));have z12:=(hb).size;replace ah:=qT ah hb;have HX:=qd (hnew);clear hnew hb;have dc:=HD.out.c6;have xc0:=HX.out.cell 0;simp only[List.getElem?_toArray,List.getElem?_cons_zero]at xc0;have hHeld:=dc.2.2.2.1;refine kO hK ?_;clear hK K;refine nT 11 rfl fun K hK=> ?_;refine mV (by rfl) (by rfl) kZ HO.out (by rfl) (by rfl) (rA (size:=1) (m:=1) HX.out (by rfl)) (by rfl) (by omega) (by have:=ah.out.size;omega) ?_;intro v4 w4 dh gV;have hown5:w4.ownsRow w.heap.size 167 1 v4 (j+1) (ptrs ((bl.take (j+1)).map fun b=>b.2.1)):=KH.out▸dh;clear dh;obtain⟨A4,vc4,rfl⟩:=bA hown5;have hb4:=gV.below;clear HX HO dc xc0;replace HD:=qd (HD.out.mod (lH hb4) (by simp[List.mem_range'_1]<;>omega));replace HR:=qd (HR.out.mod (lH hb4) (by simp[List.mem_range'_1]<;>omega));replace HT:=qd (HT.out.mod (lH hb4) (by simp[List.mem_range'_1]<;>omega) (by simp[List.mem_range'_1]<;>omega));replace HB:=qd (HB.out.mod (lH hb4) (fun b hb=>by have hh:=hne b hb;simp[List.mem_range'_1]<;>omega));have z13:=(hb4).size;replace ah:=qd (ah.out.trans (lH hb4) (fun _ hh _=>hh) (by intro k hk hl;simp[List.mem_range'_1]at hk;omega));have HO:=qd hown5;clear hown5 hb4;have dc:=HD.out.c6;have df:=HD.out.f6;have hHeld:=dc.2.2.2.1;refine kO hK ?_;clear hK K;refine vW 12 rfl ?_;refine vW 13 rfl ?_;refine nT 14 rfl fun K hK=> ?_;go_simp;refine kO hK ?_;clear hK K
   refine aT (by kernel_rfl) ?_ _;have q14:=qJ HD.out.lt (qJ HR.out.lt (qJ HT.out.aU HT.out.aV));refine Ib HD.out ?_;rintro w5 ⟨hnew,hm⟩;simp only[pt]at hnew;replace HR:=qM hm HR;replace HT:=qM hm HT;replace HB:=qd (HB.out.mod hm (fun b hb=>by have hh:=hne b hb;simp<;>omega));replace HO:=qM hm HO;have z18:=(hm).size;replace ah:=qd (ah.out.trans hm (fun _ hh _=>hh) (by intro k hk hl;simp[bB]at hk⊢<;>omega));replace HD:=qd hnew;clear hnew hm;go_wp2;go_roundw
   case rel=>exact⟨j+1,by omega,by go_num,_,HD.out,HO.out,HR.out,HT.out,HB.out,ah.out⟩
   case measure=>simp[intOf];omega
  ·obtain rfl:j=bl.length:=by omega
   have hlt':¬(bl.length:Int)<(bl.length:Int):=by omega
   rw[List.take_length]at hO;obtain⟨fb,rfl,lN,hfr,_⟩:=eP.eF hO (by omega);have HD:=qd (hD);have HR:=qd (hR);have HT:=qd (hT);have HB:=qd (hB);have HF:=qd (hfr);have ah:=qd (hm);clear hD hO hR hT hB hfr hm;have z1:=qJ ah.out.size (qJ HD.out.lt (qJ HR.out.lt (qJ HT.out.aU (qJ HT.out.aV HF.out.lt))));go_upto_region 5 with fail;have dc:=HD.out.c6;have Ww:=qd (Zk ob fb vc depth (bl.map fun b:Nat×Nat×Nat=>b.2.1) (by rw[List.length_map];exact⟨n1,n2⟩) DK.out wr.drew (HF.out.mod (Mod.drewN [] wr 1) (by simp)));rw[List.length_map]at Ww;refine rT (fun(w':World)=>w'.cell? ⟨db,0,none⟩=some (.pointer (some ⟨ob,0,none⟩))∧w'.cell? ⟨db,1,none⟩=some (.int .i64 (depth:Int))∧w'.cell? ⟨db,3,none⟩=some (.slice (some ⟨fb,0,none⟩) bl.length vc)) [19] ?_;have hHeld:=(⟨dc.1,dc.2.1,dc.2.2.2.1⟩:_∧_∧_);refine vW 0 rfl ?_;refine vW 1 rfl ?_;refine vW 2 rfl ?_;refine vW 3 rfl ?_;refine vT 4 rfl ?_;refine vW 5 rfl ?_;refine vW 6 rfl ?_;refine vW 7 rfl ?_;refine vT 8 rfl ?_;refine vW 9 rfl ?_;refine vW 10 rfl ?_;refine vW 11 rfl ?_;refine vT 12 rfl ?_;refine nT 13 rfl fun K hK=> ?_;go_simp;refine(Ww.out).mono ?_;rintro y w1 ⟨eb,vb,c2,KZ,hvb,hev,rfl,KX,hb⟩;replace hb:Below wr.heap.size wr w1:=bQ hb (Below.refl _ _).drew;replace KZ:wr.heap.size≤eb:=KZ;replace hvb:wr.heap.size≤vb:=hvb;clear Ww dc;replace HD:=qB hb HD;replace HR:=qB hb HR;replace HT:=qB hb HT;replace HB:=qd (HB.out.mod (Mod.of_below hb []) (by simp));replace HF:=qB hb HF;have z7:=(hb).size;replace ah:=qT ah hb;have HE:=qd (KX);clear KX hb
   have dc:=HD.out.c6;go_wp2_with fail;have hHeld:=(⟨dc.1,dc.2.1,dc.2.2.2.1⟩:_∧_∧_);refine kO hK ?_;clear hK K;refine vW 14 rfl ?_;refine vW 15 rfl ?_;refine nT 16 rfl fun K hK=> ?_;go_simp;refine(Wi (some ⟨eb,0,none⟩) w1).mono ?_;rintro y w2 ⟨rfl,rfl⟩;go_wp2_with fail;have hHeld:=(⟨dc.1,dc.2.1,dc.2.2.2.1⟩:_∧_∧_);refine kO hK ?_;clear hK K;refine vW 17 rfl ?_;refine vW 18 rfl ?_;refine nT 19 rfl fun K hK=> ?_;have dc:=HD.out.c6;have df:=HD.out.f6;go_simp;refine kO hK ?_;clear hK K;refine aT (by kernel_rfl) ?_ _;have q8:=qJ HD.out.lt (qJ HR.out.lt (qJ HT.out.aU (qJ HT.out.aV (qJ HF.out.lt (qJ HE.out.lt HE.out.pV)))));refine Ib HD.out ?_;rintro w3 ⟨hnew,hm⟩;simp only[pt]at hnew;replace HR:=qM hm HR;replace HT:=qM hm HT;replace HB:=qd (HB.out.mod hm (fun b hb=>by have hh:=hne b hb;simp<;>omega));replace HF:=qM hm HF;replace HE:=qM hm HE;have z15:=(hm).size;replace ah:=qd (ah.out.trans hm (fun _ hh _=>hh) (by intro k hk hl;simp[bB]at hk⊢<;>omega));replace HD:=qd hnew;clear hnew hm;have acs:=OO.out;have hd4:∀b∈bl,_:=hne
   have Wx:oM w3 db rb cap ob og fb vc eb vb c2 (bl.map fun b=>b.1) (gY bl) T (List.replicate bl.length (dM n n)) n depth 0:=by
    have hlt1:(bl.map fun b=>b.1).length=bl.length:=List.length_map ..;have hlt2:(gY bl).length=bl.length:=List.length_map ..;refine⟨by rw[hlt1,hlt2];exact HD.out,HR.out,fun q hq=> ?_,by rw[IX];exact HF.out,by rw[IX];exact HE.out,HT.out,HB.out.acp acs,KY.out,by rw[hlt2];exact⟨n1,n2⟩,by rw[hlt1,hlt2],DK.out, ?_⟩
    ·obtain⟨b,hb,rfl⟩:=List.mem_map.1 hq;obtain⟨i,hi⟩:=List.getElem?_of_mem hb;exact HB.out.done i b hi (List.getElem?_eq_some_iff.1 hi).1
    ·have hlow:∀q∈bl.map (fun b=>b.1)++fM (gY bl),q<w.heap.size∧db≠q∧rb≠q∧ob≠q∧og≠q:=fun q hq=>by
      obtain⟨b,hb,Av⟩:=List.mem_flatMap.1 (zq hq);have hh:=hne b hb;simp[aX]at Av
      rcases Av with rfl|rfl|rfl<;>omega
     unfold aR;simp only[List.nodup_cons,List.mem_cons,not_or]
     have hz:∀q,(q=db∨q=rb∨q=ob∨q=og∨w.heap.size≤q)→q∉bl.map (fun b=>b.1)++fM (gY bl):=fun q hq hm=>by
      have:=hlow q hm;omega
     refine⟨⟨by omega,by omega,by omega,by omega,by omega,by omega,hz _ (by omega)⟩,⟨by omega,by omega,by omega,by omega,by omega,hz _ (by omega)⟩,⟨by omega,by omega,by omega,by omega,hz _ (by omega)⟩,⟨by omega,by omega,by omega,hz _ (by omega)⟩,⟨by omega,by omega,hz _ (by omega)⟩,⟨by omega,hz _ (by omega)⟩,hz _ (by omega),(zI bl).nodup_iff.1 acs⟩
   go_wp2;go_end0
   first|exact⟨rfl,fb,vc,eb,vb,⟨c2,Wx⟩,lN,by omega,by omega,ah.out⟩|exact⟨rfl,fb,vc,eb,vb,c2,Wx,lN,by omega,by omega,ah.out⟩
end
theorem Mw {W0:World}{E:Nat→Addr}(db rb cap ob og fb bS eb vb bV:Nat)(bD:List Nat)(bs:List (Nat×Nat))(T:aD)(Ts:List aD)(n depth next:Nat)(P:MP)(x:bH)(w:World)(h:oM w db rb cap ob og fb bS eb vb bV bD bs T Ts n depth next)
  (hok:lQ T) (hn:next<T.gs.length) (hfit:Fits bs.length depth Ts (bJ (T.gs.getD next []))) (hM:aP w P x) (hE:Env W0 E w) (pX:P.mb∉aR db rb fb eb vb ob og bD bs) (hb0:W0.heap.size≤P.mb) (hbf:∀q∈aR db rb fb eb vb ob og bD bs,W0.heap.size≤q):
  Calls Tryz.prog 297 #[dx db,.pointer (some ⟨P.mb,P.mo,none⟩)] w fun e w'=>e= .returned (.bool true)∧oM w' db rb cap ob og fb bS eb vb bV bD bs (takeN T next 8) (eu bs.length depth ((x.add (cU 1) 1).add cV 1,Ts) (bJ (T.gs.getD next []))).2 n depth (next+1)∧aP w' P (eu bs.length depth ((x.add (cU 1) 1).add cV 1,Ts) (bJ (T.gs.getD next []))).1∧Mod (P.mb::aR db rb fb eb vb ob og bD bs) w w':=by
 have hnd:=h.nd;unfold aR at hnd pX hbf;simp only[List.nodup_cons,List.mem_cons,not_or,List.nodup_append,List.mem_append]at hnd pX;obtain⟨⟨d1,d2,d3,d4,d5,d6,d7,d8⟩,⟨r1,r2,r3,r4,r5,r6,r7⟩,⟨f1,f2,f3,f4,f5,f6⟩,⟨e1,e2,e3,e4,e5⟩,⟨v1,v2,v3,v4⟩,⟨o1,o2,o3⟩,⟨g1,g2⟩,hn1,hn2,hn3⟩:=hnd;obtain⟨m1,m2,m3,m4,m5,m6,m7,m8,m9⟩:=pX;have hfl:∀b∈bs,b.1∈fM bs∧b.2∈fM bs:=fun b hb=>⟨dJ.2 ⟨b,hb,.inl rfl⟩,dJ.2 ⟨b,hb,.inr rfl⟩⟩
 have hS:=Wm (W0:=W0) (E:=E) eb ob og vb bV depth next bs T Ts P x h.many h.deep w h.ev h.tab hok hn h.tabs hfit hM hE
  (fun b hb=>by
   obtain⟨q1,q2⟩:=hfl b hb;simp only[List.mem_cons,List.not_mem_nil,or_false,not_or]
   exact⟨⟨fun e=>m9 (e▸q1),fun e=>e5 (e▸q1),fun e=>v4 (e▸q1),fun e=>o3 (e▸q1),fun e=>g2 (e▸q1)⟩,⟨fun e=>m9 (e▸q2),fun e=>e5 (e▸q2),fun e=>v4 (e▸q2),fun e=>o3 (e▸q2),fun e=>g2 (e▸q2)⟩⟩)
  (by simp;omega) (by simp;omega) (by simp;omega) hb0 (hbf _ (by simp)) (hbf _ (by simp)) (hbf _ (by simp)) (fun b hb=>⟨hbf _ (by simp[hfl b hb]),hbf _ (by simp[hfl b hb])⟩)
 have bc3:=h.blk.cell 3;have bc4:=h.blk.cell 4;simp only[gl]at bc3 bc4;have mI:=qd (uF db fb bs.length bS w bc3);have HS:=qd hS;have HH:=qd h;unfold dx at mI⊢;clear h hS hfit;go_in;go_wp2_with fail;refine(mI.out).mono ?_;rintro y w1 ⟨rfl,rfl⟩;go_wp2_with fail;refine(HS.out).mono ?_;rintro y w1 ⟨rfl,KX,hT,hTs,hM1,hm⟩
 have HF:=qd (show oM w1 db rb cap ob og fb bS eb vb bV bD bs (takeN T next 8) (eu bs.length depth ((x.add (cU 1) 1).add cV 1,Ts) (bJ (T.gs.getD next []))).2 n depth (next+1)from by
  have hap:∀q,q≠P.mb→q≠eb→q≠ob→q≠og→q∉fM bs→q∉P.mb::eb::ob::og::fM bs:=fun q a1 a2 a3 a4 a5=>by simp only[List.mem_cons,not_or];exact⟨a1,a2,a3,a4,a5⟩
  refine⟨HH.out.blk.mod hm (hap _ (by omega) (by omega) (by omega) (by omega) (by assumption)),HH.out.row.mod hm (hap _ (by omega) (by omega) (by omega) (by omega) (by assumption)),fun b hb=>(HH.out.qh b hb).mod hm (hap _ (fun e=>m8 (e▸hb)) (fun e=>e4 (e▸hb)) (fun e=>o2 (e▸hb)) (fun e=>g1 (e▸hb)) (fun hq=>hn3 b hb b hq rfl)),
   HH.out.fresh.mod hm (hap _ (by omega) (by omega) (by omega) (by omega) (by assumption)),KX,hT,hTs,HH.out.pow,HH.out.many,HH.out.eq,HH.out.deep,HH.out.nd⟩)
 have HM:=qd (hm.more (T:=P.mb::aR db rb fb eb vb ob og bD bs) (by intro q hq;unfold aR;simp only[List.mem_cons,List.mem_append]at hq⊢;rcases hq with h|h|h|h|h<;>simp[h]));have Rt:=qd hM1;clear KX hT hTs hM1 hm;go_wp2;go_ret;exact⟨rfl,HF.out,Rt.out,HM.out⟩
section
theorem OP {n k j:Nat}(h:(j+1)*n≤k):pW n k j=n:=by
 have:=Nat.add_one_mul j n;unfold pW;omega
theorem Zm {n k j:Nat}(h:k<(j+1)*n)(h2:j*n≤k):pW n k j=k-j*n∧k-j*n<n:=by
 have:=Nat.add_one_mul j n;unfold pW;omega
theorem Zn {n k j:Nat}(h:k<(j+1)*n)(h2:j*n≤k)(i:Nat):pW n (k+1) i=if i=j then pW n k j+1 else pW n k i:=by
 have h3:=Nat.add_one_mul j n;by_cases hij:i=j
 ·subst hij;rw[if_pos rfl];unfold pW;omega
 ·rw[if_neg hij];unfold pW;rcases Nat.lt_or_ge i j with hlt|hge
  ·have h4:=Nat.mul_le_mul_right n (show i+1≤j from hlt);have h5:=Nat.add_one_mul i n;omega
  ·have h4:=Nat.mul_le_mul_right n (show j+1≤i by omega);omega
section
variable {w w' : World} {db rb cap ob og : Nat} {bl : List (Nat × Nat × Nat)} {T : aD} {n depth k j mb : Nat}
theorem ads {b c:Nat×Nat×Nat}(hnd:(bB db rb ob og bl).Nodup){i:Nat}(hc:bl[i]?=some c)(hb:bl[j]?=some b)(hne:i≠j):∀q∈aX c,q∉aX b:=by
 unfold bB at hnd;simp only[List.nodup_cons]at hnd;exact BF (f:=aX) hnd.2.2.2.2 hc hb hne
theorem vH.stepped (h:vH w db rb cap ob og bl T n depth k){b:Nat×Nat×Nat}(hb:bl[j]?=some b)(hk1:k<(j+1)*n)(hk2:j*n≤k)(hB:fG w' b.1 b.2.1 b.2.2 n (pW n k j+1))(hm:Mod [mb,b.1,b.2.1,b.2.2] w w')(hmb:mb∉bB db rb ob og bl):
  aj w' db 317 #[.pointer (some ⟨ob,0,none⟩),.int .i64 (depth:Int),.slice (some ⟨rb,0,none⟩) bl.length cap,.slice none 0 0,.pointer none,.bool false]∧eP w' rb (bl.map fun b=>b.1)∧TabAt w' ob og T∧∀(i:Nat) (c:Nat×Nat×Nat),bl[i]?=some c→fG w' c.1 c.2.1 c.2.2 n (pW n (k+1) i):=by
 have hnd:=h.nd;unfold bB at hnd;simp only[List.nodup_cons,List.mem_cons,not_or]at hnd;obtain⟨⟨d1,d2,d3,d4⟩,⟨r1,r2,r3⟩,⟨o1,o2⟩,g1,hn⟩:=hnd;have oL:=List.mem_of_getElem? hb;have hin:∀q∈aX b,q∈bl.flatMap fun b=> [b.1,b.2.1,b.2.2]:=fun q hq=>List.mem_flatMap.2 ⟨b,oL,hq⟩
 have hS:∀q,q≠mb→q∉(bl.flatMap fun b=> [b.1,b.2.1,b.2.2])→q∉[mb,b.1,b.2.1,b.2.2]:=fun q h1 h2 h3=>by
  rcases List.mem_cons.1 h3 with e|e
  ·exact h1 e
  ·exact h2 (hin q e)
 have hne:∀q∈bB db rb ob og bl,q≠mb:=fun q hq e=>hmb (e▸hq);refine⟨h.blk.mod hm (hS _ (hne _ (by simp[bB])) d4),h.row.mod hm (hS _ (hne _ (by simp[bB])) r3),h.tab.mod hm (hS _ (hne _ (by simp[bB])) o2) (hS _ (hne _ (by simp[bB])) g1),fun i c hc=> ?_⟩;rw[Zn hk1 hk2];by_cases hij:i=j
 ·subst hij;rw[hb]at hc;cases hc;rw[if_pos rfl];exact hB
 ·rw[if_neg hij];have ha:=ads h.nd hc hb hij;obtain⟨m1,m2,m3⟩:=vI (db:=db) (rb:=rb) (ob:=ob) (og:=og) (List.mem_of_getElem? hc)
  have hz:∀q∈aX c,q≠mb→q∉[mb,b.1,b.2.1,b.2.2]:=fun q h1 h2 h3=>by
   rcases List.mem_cons.1 h3 with e|e
   ·exact h2 e
   ·exact ha q h1 e
  exact(h.qh i c hc).mod hm (hz _ (by simp[aX]) (hne _ m1)) (hz _ (by simp[aX]) (hne _ m2)) (hz _ (by simp[aX]) (hne _ m3))
end
theorem Mx {W0:World}{E:Nat→Addr}(db rb cap ob og:Nat)(bl:List (Nat×Nat×Nat))(T:aD)(n depth k:Nat)(P:MP)(x:bH)(w:World)(h:vH w db rb cap ob og bl T n depth k)
  (hM:aP w P x) (hE:Env W0 E w) (hmF:P.mb∉bB db rb ob og bl) (hb0:W0.heap.size≤P.mb) (hbF:∀q∈bB db rb ob og bl,W0.heap.size≤q):
  Calls Tryz.prog 297 #[dx db,.pointer (some ⟨P.mb,P.mo,none⟩)] w fun e w'=>e= .returned (.bool true)∧aP w' P ((x.add cV 1).add (cU 1) 1)∧Mod (P.mb::bB db rb ob og bl) w w'∧(if k+1=n*bl.length then∃fb bS eb vb bV,oM w' db rb cap ob og fb bS eb vb bV (bl.map fun b=>b.1) (gY bl) T (List.replicate bl.length (dM n n)) n depth 0∧w.heap.size≤fb∧w.heap.size≤eb∧w.heap.size≤vb else vH w' db rb cap ob og bl T n depth (k+1)):=by
 have hml:=hM.lt;have HH:=qd h;have hle:=h.pow.le;have hpos:=h.pow.pos;have af8:=h.lt;obtain⟨n1,n2⟩:=h.many;have bc2:=h.blk.cell 2;have bc3:=h.blk.cell 3;simp only[gl]at bc2 bc3;have mI:=qd (wD db w bc3);have HM:=qd hM;have HE:=qd hE;unfold dx at mI⊢;clear h hM hE;go_in;go_wp2_with fail;refine(mI.out).mono ?_;rintro y w1 ⟨rfl,rfl⟩;go_wp2;clear bc2 bc3 mI;go_loopw [4,5,6,20] (fun _ _ _ i wr=>∃j:Nat,j≤bl.length∧i= .int .i64 j∧j*n≤k∧Below w.heap.size w wr) (fun _ _ _ i _=>bl.length-(intOf i).toNat)
 case atStart=>exact⟨0,by omega,rfl,by omega,Below.refl _ _⟩
 case round=>
  obtain⟨j,hj,rfl,hjk,hb⟩:=hrel;by_cases hlt:j<bl.length
  ·have hlt':(j:Int)<(bl.length:Int):=by omega
   have hj0:(0:Int)≤(j:Int):=by omega
   obtain⟨b,hbi⟩:∃b,bl[j]?=some b:=⟨_,List.getElem?_eq_getElem hlt⟩;have oL:=List.mem_of_getElem? hbi;have hD:=HH.out.mod (Mod.of_below hb []) (by simp);have hrw:=hD.row.at_ j b.1 (by rw[List.getElem?_map,hbi];rfl);have OQ:=hD.qh j b hbi;by_cases hfull:(j+1)*n≤k
   ·rw[OP hfull]at OQ;have HC:=qd (Ml b.1 b.2.1 b.2.2 n (.pointer (some ⟨P.mb,P.mo,none⟩)) wr OQ);have HB:=qd hb;unfold nS at HC;clear hbi hD OQ hb;go_wp2_with fail;refine(HC.out).mono ?_;rintro y w2 ⟨rfl,hb2⟩;have HB2:=qd (HB.out.trans (hb2.mono HB.out.size));clear hb2;go_wp2;go_roundw
    case rel=>exact⟨j+1,by omega,by go_num,hfull,HB2.out⟩
    case measure=>simp[intOf];omega
   ·have hpart:k<(j+1)*n:=by omega
    obtain⟨hko,hkn⟩:=Zm hpart hjk;have hmul:=Nat.add_one_mul j n;have hbf:=hbF;have pX:=hmF;obtain⟨q1,q2,q3⟩:=vI (db:=db) (rb:=rb) (ob:=ob) (og:=og) oL;have hne:∀q∈bB db rb ob og bl,P.mb≠q:=fun q hq e=>pX (e▸hq);have HC:=qd (TD (W0:=W0) (E:=E) b.1 b.2.1 b.2.2 n (pW n k j) P x (by omega) wr OQ (HM.out.below hb) (HE.out.next hb) (hne _ q1) (hne _ q2) (hne _ q3) hb0 (hbf _ q1) (hbf _ q2) (hbf _ q3));have HD:=qd hD;have HB:=qd hb;have FB:=qd hbi;unfold nS at HC;clear hbi hD OQ hb;go_wp2_with fail;refine(HC.out).mono ?_;rintro y w2 ⟨rfl,hB2,hM2,hm⟩;have hpc:=HD.out.stepped FB.out hpart hjk hB2 hm pX;have Az:=qd hpc;have K3:=qd hM2;have HB2:=qd hB2;have hmt:Mod (P.mb::bB db rb ob og bl) w w2:=(Mod.of_below HB.out _).then (hm.more (by intro q hq;simp only[List.mem_cons,List.not_mem_nil,or_false]at hq⊢;rcases hq with rfl|rfl|rfl|rfl;exact .inl rfl;exact .inr q1;exact .inr q2;exact .inr q3));have tY:=qd hmt;have bc2:=hpc.1.cell 2;simp only[gl]at bc2;have hnl:n*bl.length=bl.length*n:=Nat.mul_comm _ _;clear hpc hmt hM2 hm hB2;by_cases hlast:j+1=bl.length
    ·have hjl:(j:Int)=(bl.length:Int)-1:=by omega
     have hlm:bl.length*n=(j+1)*n:=by rw[hlast]
     have iY:=qd (sO b.1 n (pW n k j+1) _ w2 HB2.out.le hle HB2.out.blk);unfold nS at iY;obtain⟨dl,hdl⟩:∃dl,dl=n-(pW n k j+1):=⟨_,rfl⟩;rw[←hdl]at iY;by_cases hall:k+1=n*bl.length
     ·have hd0:dl=0:=by omega
      have hbg:∀(i:Nat) (q:Nat×Nat×Nat),bl[i]?=some q→fG w2 q.1 q.2.1 q.2.2 n n:=fun i q hq=>by
       have hi:=(List.getElem?_eq_some_iff.1 hq).1;have h1:=Az.out.2.2.2 i q hq;have h2:=Nat.mul_le_mul_right n (show i+1≤bl.length by omega)
       rwa [OP (by omega)]at h1
      have hBg:yu w2 bl n 0:=⟨fun i q hq _=>hbg i q hq,fun i q _ hi=>by omega,fun i q hq=>(hbg i q hq).tab⟩;have vP:=qd (fun V (hV:Mod [] w2 V)=>TM db rb cap ob og bl T n depth ⟨n1,n2⟩ HH.out.deep HH.out.pow HH.out.nd V (Az.out.1.mod hV (by simp)) (Az.out.2.1.mod hV (by simp)) (Az.out.2.2.1.mod hV (by simp) (by simp)) (hBg.mod hV (by simp)));unfold dx at vP;rw[hd0]at iY;clear hbg hBg hdl hd0;go_wp2_with fail;refine(iY.out).mono ?_;rintro y w3 ⟨rfl,hw3⟩;have kI:Mod [] w2 w3:=hw3▸Mod.drewN [] w2 1;have HB3:=qd (vP.out w3 kI);have NN:=qd (K3.out.mod kI (by simp));have ad8:=qd (tY.out.then (kI.more (by simp)));have jg:=qd kI.size;have HS4:=qd tY.out.size;clear hw3 kI;go_wp2_with fail;refine(HB3.out).mono ?_;rintro y w4 ⟨rfl,fb,bS,eb,vb,hrest⟩;have nM:=qd hrest;clear hrest;go_wp2;go_ret;obtain⟨bV,Wx,lN,KZ,hvb,ku⟩:=nM.out;have hs3:=jg.out;have hs4:=HS4.out;refine⟨rfl,NN.out.mod ku pX,ad8.out.then (ku.more (fun q hq=>List.mem_cons_of_mem _ hq)), ?_⟩
      try rw[if_pos hall]
      exact⟨fb,bS,eb,vb,by first|exact⟨bV,Wx,by omega,by omega,by omega⟩|exact⟨⟨bV,Wx⟩,by omega,by omega,by omega⟩⟩
     ·have hd0:¬(dl:Int)=0:=by omega
      have hd1:¬dl=0:=by omega
      clear hdl;go_wp2_with fail;refine(iY.out).mono ?_;rintro y w3 ⟨rfl,hw3⟩;have HW3:=qd (show Mod [] w2 w3 from hw3▸Mod.drewN [] w2 1);clear hw3;go_wp2;go_ret;refine⟨rfl,K3.out.mod HW3.out (by simp),tY.out.then (HW3.out.more (by simp)), ?_⟩
      try rw[if_neg hall]
      exact⟨Az.out.1.mod HW3.out (by simp),Az.out.2.1.mod HW3.out (by simp),fun i q hq=>(Az.out.2.2.2 i q hq).mod HW3.out (by simp) (by simp) (by simp),Az.out.2.2.1.mod HW3.out (by simp) (by simp),HH.out.pow,HH.out.many,by omega,HH.out.deep,HH.out.nd⟩
    ·have hjl:¬(j:Int)=(bl.length:Int)-1:=by omega
     have h2:=Nat.mul_le_mul_right n (show j+1+1≤bl.length by omega);have h3:=Nat.add_one_mul (j+1) n
     have hall:¬k+1=n*bl.length:=by omega
     go_wp2;go_ret;refine⟨rfl,K3.out,tY.out, ?_⟩
     try rw[if_neg hall]
     exact⟨Az.out.1,Az.out.2.1,Az.out.2.2.2,Az.out.2.2.1,HH.out.pow,HH.out.many,by omega,HH.out.deep,HH.out.nd⟩
  ·exfalso
   obtain rfl:j=bl.length:=by omega
   have:=Nat.mul_comm bl.length n;omega
end
end Go.Proofs.YtgiaobmcbbfmnaaGreatDoor
