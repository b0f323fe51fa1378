/- A dual's begin by its contract. -/
import Derived.Test.YtfbljmcjadfkoaaGreatDoorCoAM
import Derived.Test.YtfbljmcjadfkoaaGreatDoorSqM
import Derived.Test.YtfbljmcjadfkoaaGreatDoorSqT
import Derived.Test.YtfbljmcjadfkoaaGreatDoorSq
namespace Go.Proofs.YtfbljmcjadfkoaaGreatDoor
set_option maxRecDepth 100000
set_option maxHeartbeats 8000000
open Go.RowKit AmC
section
variable {w w' : World} {α : Type} {j n : Nat} {bl : List (Nat × Nat × Nat)}
theorem below_asMod {B:Nat}(h:Below B w w'):Mod (List.range' B (w.heap.size-B)) w w':=
 ⟨h.os,h.tape,h.output,h.size,fun k hk hn=>h.block k (by simp[List.mem_range'_1]at hn;omega)⟩
theorem nodup_flat {f:α→List Nat}{l:List α}(h:(l.flatMap f).Nodup){i:Nat}{a b:α}(hi:l[i]?=some a)(hj:l[j]?=some b)(hne:i≠j):∀x∈f a,x∉f b:=by
 obtain⟨hi',rfl⟩:=List.getElem?_eq_some_iff.1 hi;obtain⟨hj',rfl⟩:=List.getElem?_eq_some_iff.1 hj;have hp:=List.pairwise_iff_getElem.1 (List.pairwise_flatMap.1 h).2;intro x hx hy;rcases Nat.lt_or_ge i j with hlt|hge
 ·exact hp i j hi' hj' hlt x hx x hy rfl
 ·exact hp j i hj' hi' (by omega) x hy x hx rfl
theorem nodup_at {f:α→List Nat}{l:List α}(h:(l.flatMap f).Nodup){a:α}(ha:a∈l):(f a).Nodup:=(List.pairwise_flatMap.1 h).1 a ha
structure BgAt (w:World)(bl:List (Nat×Nat×Nat))(n j:Nat):Prop where
 undone:∀(i:Nat) (b:Nat×Nat×Nat),bl[i]?=some b→j≤i→BldAt w b.1 b.2.1 b.2.2 n n
 done:∀(i:Nat) (b:Nat×Nat×Nat),bl[i]?=some b→i<j→Blk w b.1 325 #[.pointer none,.int .i64 (n:Int),.int .i64 (n:Int)]
 tabs:∀(i:Nat) (b:Nat×Nat×Nat),bl[i]?=some b→TabAt w b.2.1 b.2.2 (prepT n n)
theorem BgAt.mod {S:List Nat}(h:BgAt w bl n j)(hm:Mod S w w')(hs:∀b∈bl,b.1∉S∧b.2.1∉S∧b.2.2∉S):BgAt w' bl n j:=
 ⟨fun i b hb hj=>by obtain⟨h1,h2,h3⟩:=hs b (List.mem_of_getElem? hb);exact(h.undone i b hb hj).mod hm h1 h2 h3,
  fun i b hb hj=>(h.done i b hb hj).mod hm (hs b (List.mem_of_getElem? hb)).1,
  fun i b hb=>(h.tabs i b hb).mod hm (hs b (List.mem_of_getElem? hb)).2.1 (hs b (List.mem_of_getElem? hb)).2.2⟩
def blBlocks (b:Nat×Nat×Nat):List Nat:=[b.1,b.2.1,b.2.2]
def blTabs (bl:List (Nat×Nat×Nat)):List (Nat×Nat):=bl.map fun b=>(b.2.1,b.2.2)
theorem perm_blocks:∀bl:List (Nat×Nat×Nat),(bl.flatMap blBlocks).Perm (bl.map (fun b=>b.1)++flatB (blTabs bl))
 | []=> .refl _
 |b::t=>by
  have h:=perm_blocks t
  have h1:((b::t).flatMap blBlocks)=b.1::([b.2.1,b.2.2]++t.flatMap blBlocks):=by simp[blBlocks]
  have h2:((b::t).map (fun b=>b.1)++flatB (blTabs (b::t)))=b.1::(t.map (fun b=>b.1)++([b.2.1,b.2.2]++flatB (blTabs t))):=by simp[flatB,blTabs]
  rw[h1,h2];refine List.Perm.cons _ ((h.append_left _).trans ?_);rw[←List.append_assoc,←List.append_assoc];exact List.perm_append_comm.append_right _
theorem mem_flat_blocks {q:Nat}(h:q∈bl.map (fun b=>b.1)++flatB (blTabs bl)):q∈bl.flatMap blBlocks:=(perm_blocks bl).mem_iff.2 h
theorem fst_blTabs (bl:List (Nat×Nat×Nat)):(blTabs bl).map Prod.fst=bl.map fun b=>b.2.1:=by simp[blTabs]
theorem BgAt.take (h:BgAt w bl n j)(hnd:(bl.flatMap blBlocks).Nodup){b:Nat×Nat×Nat}(hb:bl[j]?=some b)(hk:Blk w' b.1 325 #[.pointer none,.int .i64 (n:Int),.int .i64 (n:Int)])(hm:Mod [b.1] w w'):BgAt w' bl n (j+1):=by
 have ap:∀(i:Nat) (c:Nat×Nat×Nat),bl[i]?=some c→i≠j→c.1≠b.1∧c.2.1≠b.1∧c.2.2≠b.1:=fun i c hc hne=>by
  have hf:=nodup_flat hnd hc hb hne;have h1:=hf c.1 (by simp[blBlocks]);have h2:=hf c.2.1 (by simp[blBlocks]);have h3:=hf c.2.2 (by simp[blBlocks]);simp[blBlocks]at h1 h2 h3;exact⟨h1.1,h2.1,h3.1⟩
 have hb3:=nodup_at hnd (List.mem_of_getElem? hb);simp[blBlocks]at hb3;refine⟨fun i c hc hj=> ?_,fun i c hc hj=> ?_,fun i c hc=> ?_⟩
 ·obtain⟨h1,h2,h3⟩:=ap i c hc (by omega);exact(h.undone i c hc (by omega)).mod hm (by simpa using h1) (by simpa using h2) (by simpa using h3)
 ·by_cases hij:i=j
  ·subst hij;rw[hb]at hc;cases hc;exact hk
  ·exact(h.done i c hc (by omega)).mod hm (by simpa using(ap i c hc hij).1)
 ·by_cases hij:i=j
  ·subst hij;rw[hb]at hc;cases hc;exact(h.tabs _ _ hb).mod hm (by simp;omega) (by simp;omega)
  ·obtain⟨h1,h2,h3⟩:=ap i c hc hij;exact(h.tabs i c hc).mod hm (by simpa using h2) (by simpa using h3)
theorem BgAt.tabsAt (h:BgAt w bl n j)(hnd:(bl.flatMap blBlocks).Nodup):TabsAt w (blTabs bl) (List.replicate bl.length (prepT n n)):=by
 refine⟨by simp[blTabs],fun i b T hb hT=> ?_,fun i k b c hb hc hne=> ?_⟩
 ·unfold blTabs at hb;rw[List.getElem?_map]at hb;obtain⟨x,hx,rfl⟩:=Option.map_eq_some_iff.1 hb;have:=List.mem_of_getElem? hT;rw[(List.mem_replicate.1 this).2];exact h.tabs i x hx
 ·unfold blTabs at hb hc;rw[List.getElem?_map]at hb hc;obtain⟨x,hx,rfl⟩:=Option.map_eq_some_iff.1 hb;obtain⟨y,hy,rfl⟩:=Option.map_eq_some_iff.1 hc;have hf:=nodup_flat hnd hx hy hne;have h1:=hf x.2.1 (by simp[blBlocks]);have h2:=hf x.2.2 (by simp[blBlocks]);simp[blBlocks]at h1 h2;exact⟨h1.2.1,h1.2.2,h2.2.1,h2.2.2⟩
theorem ptrs_snoc {f:α→Nat}{l:List α}{b:α}(h:l[j]?=some b):ptrs ((l.take j).map f)++[.pointer (some ⟨f b,0,none⟩)]=ptrs ((l.take (j+1)).map f):=by
 rw[take_nx h,List.map_append];simp[ptrs]
theorem dual_begin (db rb cap ob og:Nat)(bl:List (Nat×Nat×Nat))(T:TabM)(n depth:Nat)(hmany:1≤bl.length∧bl.length≤2)(hdeep:depth≤15)(hpow:Pw n)(hnd:(footB db rb ob og bl).Nodup)(w:World)(hblk:Blk w db 273 #[.pointer (some ⟨ob,0,none⟩),.int .i64 (depth:Int),.slice (some ⟨rb,0,none⟩) bl.length cap,.slice none 0 0,.pointer none,.bool false])(hrow:RowAt w rb (bl.map fun b=>b.1))(htab:TabAt w ob og T)(hbl:BgAt w bl n 0):
  Calls Tryz.prog 331 #[dualP db] w fun e w'=>e= .returned undef∧∃fb fcap eb vb vcap,DuM w' db rb cap ob og fb fcap eb vb vcap (bl.map fun b=>b.1) (blTabs bl) T (List.replicate bl.length (prepT n n)) n depth 0∧w.heap.size≤fb∧w.heap.size≤eb∧w.heap.size≤vb∧Mod (footB db rb ob og bl) w w':=by
 obtain⟨n1,n2⟩:=hmany;unfold footB at hnd;simp only[List.nodup_cons,List.mem_cons,not_or]at hnd;obtain⟨⟨hd1,hd2,hd3,hd4⟩,⟨hr1,hr2,hr3⟩,⟨ho1,ho2⟩,hg1,hnd'⟩:=hnd;have hmemF:∀b∈bl,∀q,q=b.1∨q=b.2.1∨q=b.2.2→q∈bl.flatMap fun b=> [b.1,b.2.1,b.2.2]:=fun b hb q hq=>List.mem_flatMap.2 ⟨b,hb,by simpa using hq⟩
 have hne:∀b∈bl,db≠b.1∧db≠b.2.1∧db≠b.2.2∧rb≠b.1∧rb≠b.2.1∧rb≠b.2.2∧ob≠b.1∧ob≠b.2.1∧ob≠b.2.2∧og≠b.1∧og≠b.2.1∧og≠b.2.2∧b.1<w.heap.size∧b.2.1<w.heap.size∧b.2.2<w.heap.size:=fun b hb=>by
  have m1:=hmemF b hb b.1 (.inl rfl);have m2:=hmemF b hb b.2.1 (.inr (.inl rfl));have m3:=hmemF b hb b.2.2 (.inr (.inr rfl));obtain⟨i,hi⟩:=List.getElem?_of_mem hb;have hl:=hbl.undone i b hi (Nat.zero_le _);exact⟨fun e=>hd4 (e▸m1),fun e=>hd4 (e▸m2),fun e=>hd4 (e▸m3),fun e=>hr3 (e▸m1),fun e=>hr3 (e▸m2),fun e=>hr3 (e▸m3),fun e=>ho2 (e▸m1),fun e=>ho2 (e▸m2),fun e=>ho2 (e▸m3),fun e=>hg1 (e▸m1),fun e=>hg1 (e▸m2),fun e=>hg1 (e▸m3),hl.lt,hl.ltT,hl.ltG⟩
 have HND:=qd (show(bl.flatMap blBlocks).Nodup from hnd');have HDp:=qd hdeep;have HPw:=qd hpow;clear hnd' hmemF hd4 hr3 ho2 hg1 hdeep hpow;have HD:=qd (hblk);have HR:=qd (hrow);have HT:=qd (htab);have HB:=qd (hbl);have Hmod:=qd (Mod.refl (footB db rb ob og bl) w);have q1:=qJ HD.out.lt (qJ HR.out.lt (qJ HT.out.ltT HT.out.ltG));clear hblk hrow htab hbl;unfold dualP;go_in;have dc:=HD.out.c6;go_wp2;clear dc;go_loopw [3,9] (fun _ i wr=>∃j:Nat,j≤bl.length∧i= .int .i64 j∧∃v,Blk wr db 273 #[.pointer (some ⟨ob,0,none⟩),.int .i64 (depth:Int),.slice (some ⟨rb,0,none⟩) bl.length cap,v,.pointer none,.bool false]∧wr.ownsRow w.heap.size 182 1 v j (ptrs ((bl.take j).map fun b=>b.2.1))∧RowAt wr rb (bl.map fun b=>b.1)∧TabAt wr ob og T∧BgAt wr bl n j∧Mod (footB db rb ob og bl) w wr) (fun _ i _=>bl.length-(intOf i).toNat)
 case atStart=>exact⟨0,by omega,rfl,_,HD.out,by simpa[ptrs]using World.ownsRow_nil w w.heap.size _ 1,HR.out,HT.out,HB.out,Hmod.out⟩
 case round=>
  clear HD HR HT HB Hmod;obtain⟨j,hj,rfl,v,hD,hO,hR,hT,hB,hm⟩:=hrel;obtain⟨A,vc,rfl⟩:=own_form hO;by_cases hlt:j<bl.length
  ·have hlt':(j:Int)<(bl.length:Int):=by omega
   have hj0:(0:Int)≤(j:Int):=by omega
   obtain⟨b,hb⟩:∃b,bl[j]?=some b:=⟨_,List.getElem?_eq_getElem hlt⟩;have hbm:=List.mem_of_getElem? hb;have hbb:=hne b hbm;have hrw:=hR.at_ j b.1 (by rw[List.getElem?_map,hb];rfl);have HPs:=qd (ptrs_snoc (f:=fun b:Nat×Nat×Nat=>b.2.1) hb);have HBi:=qd hb;clear hb;have HD:=qd (hD);have HR:=qd (hR);have HT:=qd (hT);have HB:=qd (hB);have HO:=qd (hO);have Hmod:=qd (hm);clear hD hO hR hT hB hm;have z1:=qJ Hmod.out.size (qJ HD.out.lt (qJ HR.out.lt (qJ HT.out.ltT HT.out.ltG)));go_upto_region 3 with fail;have dc:=HD.out.c6;refine rT (fun(w':World)=>w'.cell? ⟨db,3,none⟩=some (.slice A j vc)) [14] ?_;have hHeld:=dc.2.2.2.1;refine vW 0 rfl ?_;refine vW 1 rfl ?_;refine vW 2 rfl ?_;refine vW 3 rfl ?_;refine vT 4 rfl ?_;refine vW 5 rfl ?_;refine nT 6 rfl fun K hK=> ?_;go_simp;have HTk:=qd (build_Take b.1 b.2.1 b.2.2 n wr.drew (((HB.out.undone j b HBi.out (Nat.le_refl _)).mod (Mod.drewN [] wr 1) (by simp) (by simp) (by simp))));unfold bldP tabP at HTk;refine(HTk.out).mono ?_;rintro y w1 ⟨rfl,hk1,_,hm⟩;replace hm:Mod [b.1] wr w1:=(Mod.drewN [b.1] wr 1).then hm;have hB1:=HB.out.take HND.out HBi.out hk1 hm;clear HTk HB hk1;have hm0:Mod (footB db rb ob og bl) wr w1:=hm.more (by intro q hq;simp at hq;subst hq;exact(mem_footB hbm).1);have HmO:=Hmod;clear Hmod;have Hmod:=qd (Mod.refl [b.1] wr);clear hrw dc;replace HD:=qM hm HD;replace HR:=qM hm HR;replace HT:=qM hm HT;replace HO:=qM hm HO;have z6:=(hm).size;replace Hmod:=qd (Hmod.out.trans hm (fun _ hh _=>hh) (by intro k hk hl;simp at hk⊢<;>omega))
   clear Hmod;have Hmod:=qd (HmO.out.then hm0);clear HmO hm0 hm;have HB:=qd hB1;clear hB1;have dc:=HD.out.c6;go_wp2_with fail;have hHeld:=dc.2.2.2.1;refine kO hK ?_;clear hK K;refine vW 7 rfl ?_;refine vW 8 rfl ?_;refine nT 9 rfl fun K hK=> ?_;go_simp;refine(must_tab (some ⟨b.2.1,0,none⟩) w1).mono ?_;rintro y w2 ⟨rfl,rfl⟩;go_wp2_with fail;have hHeld:=dc.2.2.2.1;refine kO hK ?_;clear hK K;refine nT 10 rfl fun K hK=> ?_;go_simp;have q7:=qJ HD.out.lt (qJ HR.out.lt (qJ HT.out.ltT (qJ HT.out.ltG Hmod.out.size)));refine nameB 182 #[.pointer (some ⟨b.2.1,0,none⟩)] ?_;rintro w3 ⟨hnew,hb⟩;obtain⟨xb,hxb⟩:∃xb,xb=w1.heap.size:=⟨_,rfl⟩;rw[←hxb]at hnew⊢
   replace hxb:w1.heap.size≤xb:=by omega
   clear dc;replace HD:=qB hb HD;replace HR:=qB hb HR;replace HT:=qB hb HT;replace HO:=qB hb HO;replace HB:=qd (HB.out.mod (Mod.of_below hb []) (by simp));have z12:=(hb).size;replace Hmod:=qT Hmod hb;have HX:=qd (hnew);clear hnew hb;have dc:=HD.out.c6;have xc0:=HX.out.cell 0;simp only[List.getElem?_toArray,List.getElem?_cons_zero]at xc0;have hHeld:=dc.2.2.2.1;refine kO hK ?_;clear hK K;refine nT 11 rfl fun K hK=> ?_;refine step_app (by rfl) (by rfl) slty_ptab HO.out (by rfl) (by rfl) (reads_blk (size:=1) (m:=1) HX.out (by rfl)) (by rfl) (by omega) (by have:=Hmod.out.size;omega) ?_;intro v4 w4 hown4 hgr4;have hown5:w4.ownsRow w.heap.size 182 1 v4 (j+1) (ptrs ((bl.take (j+1)).map fun b=>b.2.1)):=HPs.out▸hown4;clear hown4;obtain⟨A4,vc4,rfl⟩:=own_form hown5;have hb4:=hgr4.below;clear HX HO dc xc0;replace HD:=qd (HD.out.mod (below_asMod hb4) (by simp[List.mem_range'_1]<;>omega));replace HR:=qd (HR.out.mod (below_asMod hb4) (by simp[List.mem_range'_1]<;>omega));replace HT:=qd (HT.out.mod (below_asMod hb4) (by simp[List.mem_range'_1]<;>omega) (by simp[List.mem_range'_1]<;>omega));replace HB:=qd (HB.out.mod (below_asMod hb4) (fun b hb=>by have hh:=hne b hb;simp[List.mem_range'_1]<;>omega));have z13:=(hb4).size;replace Hmod:=qd (Hmod.out.trans (below_asMod hb4) (fun _ hh _=>hh) (by intro k hk hl;simp[List.mem_range'_1]at hk;omega));have HO:=qd hown5;clear hown5 hb4;have dc:=HD.out.c6;have df:=HD.out.f6;have hHeld:=dc.2.2.2.1;refine kO hK ?_;clear hK K;refine vW 12 rfl ?_
   refine vW 13 rfl ?_;refine nT 14 rfl fun K hK=> ?_;go_simp;refine kO hK ?_;clear hK K;refine doneT (by kernel_rfl) ?_ _;have q14:=qJ HD.out.lt (qJ HR.out.lt (qJ HT.out.ltT HT.out.ltG));refine qS1 HD.out ?_;rintro w5 ⟨hnew,hm⟩;simp only[pt]at hnew;replace HR:=qM hm HR;replace HT:=qM hm HT;replace HB:=qd (HB.out.mod hm (fun b hb=>by have hh:=hne b hb;simp<;>omega));replace HO:=qM hm HO;have z18:=(hm).size;replace Hmod:=qd (Hmod.out.trans hm (fun _ hh _=>hh) (by intro k hk hl;simp[footB]at hk⊢<;>omega));replace HD:=qd hnew;clear hnew hm;go_wp2;go_roundw
   case rel=>exact⟨j+1,by omega,by go_num,_,HD.out,HO.out,HR.out,HT.out,HB.out,Hmod.out⟩
   case measure=>simp[intOf];omega
  ·obtain rfl:j=bl.length:=by omega
   have hlt':¬(bl.length:Int)<(bl.length:Int):=by omega
   rw[List.take_length]at hO;obtain⟨fb,rfl,hfb,hfr,_⟩:=RowAt.of_own hO (by omega);have HD:=qd (hD);have HR:=qd (hR);have HT:=qd (hT);have HB:=qd (hB);have HF:=qd (hfr);have Hmod:=qd (hm);clear hD hO hR hT hB hfr hm;have z1:=qJ Hmod.out.size (qJ HD.out.lt (qJ HR.out.lt (qJ HT.out.ltT (qJ HT.out.ltG HF.out.lt))));go_upto_region 5 with fail;have dc:=HD.out.c6;have HEv:=qd (evac_New ob fb vc depth (bl.map fun b:Nat×Nat×Nat=>b.2.1) (by rw[List.length_map];exact⟨n1,n2⟩) HDp.out wr.drew (HF.out.mod (Mod.drewN [] wr 1) (by simp)));rw[List.length_map]at HEv;refine rT (fun(w':World)=>w'.cell? ⟨db,0,none⟩=some (.pointer (some ⟨ob,0,none⟩))∧w'.cell? ⟨db,1,none⟩=some (.int .i64 (depth:Int))∧w'.cell? ⟨db,3,none⟩=some (.slice (some ⟨fb,0,none⟩) bl.length vc)) [19] ?_;have hHeld:=(⟨dc.1,dc.2.1,dc.2.2.2.1⟩:_∧_∧_);refine vW 0 rfl ?_;refine vW 1 rfl ?_;refine vW 2 rfl ?_;refine vW 3 rfl ?_;refine vT 4 rfl ?_;refine vW 5 rfl ?_;refine vW 6 rfl ?_;refine vW 7 rfl ?_;refine vT 8 rfl ?_;refine vW 9 rfl ?_;refine vW 10 rfl ?_;refine vW 11 rfl ?_;refine vT 12 rfl ?_;refine nT 13 rfl fun K hK=> ?_;go_simp;refine(HEv.out).mono ?_;rintro y w1 ⟨eb,vb,c2,heb,hvb,hev,rfl,hEv,hb⟩;replace hb:Below wr.heap.size wr w1:=below_nx hb (Below.refl _ _).drew;replace heb:wr.heap.size≤eb:=heb;replace hvb:wr.heap.size≤vb:=hvb;clear HEv dc;replace HD:=qB hb HD;replace HR:=qB hb HR;replace HT:=qB hb HT;replace HB:=qd (HB.out.mod (Mod.of_below hb []) (by simp));replace HF:=qB hb HF;have z7:=(hb).size
   replace Hmod:=qT Hmod hb;have HE:=qd (hEv);clear hEv hb;have dc:=HD.out.c6;go_wp2_with fail;have hHeld:=(⟨dc.1,dc.2.1,dc.2.2.2.1⟩:_∧_∧_);refine kO hK ?_;clear hK K;refine vW 14 rfl ?_;refine vW 15 rfl ?_;refine nT 16 rfl fun K hK=> ?_;go_simp;refine(must_evac (some ⟨eb,0,none⟩) w1).mono ?_;rintro y w2 ⟨rfl,rfl⟩;go_wp2_with fail;have hHeld:=(⟨dc.1,dc.2.1,dc.2.2.2.1⟩:_∧_∧_);refine kO hK ?_;clear hK K;refine vW 17 rfl ?_;refine vW 18 rfl ?_;refine nT 19 rfl fun K hK=> ?_;have dc:=HD.out.c6;have df:=HD.out.f6;go_simp;refine kO hK ?_;clear hK K;refine doneT (by kernel_rfl) ?_ _;have q8:=qJ HD.out.lt (qJ HR.out.lt (qJ HT.out.ltT (qJ HT.out.ltG (qJ HF.out.lt (qJ HE.out.lt HE.out.ltV)))));refine qS1 HD.out ?_;rintro w3 ⟨hnew,hm⟩;simp only[pt]at hnew;replace HR:=qM hm HR;replace HT:=qM hm HT;replace HB:=qd (HB.out.mod hm (fun b hb=>by have hh:=hne b hb;simp<;>omega));replace HF:=qM hm HF;replace HE:=qM hm HE;have z15:=(hm).size;replace Hmod:=qd (Hmod.out.trans hm (fun _ hh _=>hh) (by intro k hk hl;simp[footB]at hk⊢<;>omega));replace HD:=qd hnew;clear hnew hm;have hndB:=HND.out;have hd4:∀b∈bl,_:=hne
   have hDM:DuM w3 db rb cap ob og fb vc eb vb c2 (bl.map fun b=>b.1) (blTabs bl) T (List.replicate bl.length (prepT n n)) n depth 0:=by
    have hlt1:(bl.map fun b=>b.1).length=bl.length:=List.length_map ..;have hlt2:(blTabs bl).length=bl.length:=List.length_map ..;refine⟨by rw[hlt1,hlt2];exact HD.out,HR.out,fun q hq=> ?_,by rw[fst_blTabs];exact HF.out,by rw[fst_blTabs];exact HE.out,HT.out,HB.out.tabsAt hndB,HPw.out,by rw[hlt2];exact⟨n1,n2⟩,by rw[hlt1,hlt2],HDp.out, ?_⟩
    ·obtain⟨b,hb,rfl⟩:=List.mem_map.1 hq;obtain⟨i,hi⟩:=List.getElem?_of_mem hb;exact HB.out.done i b hi (List.getElem?_eq_some_iff.1 hi).1
    ·have hlow:∀q∈bl.map (fun b=>b.1)++flatB (blTabs bl),q<w.heap.size∧db≠q∧rb≠q∧ob≠q∧og≠q:=fun q hq=>by
      obtain⟨b,hb,hqb⟩:=List.mem_flatMap.1 (mem_flat_blocks hq);have hh:=hne b hb;simp[blBlocks]at hqb
      rcases hqb with rfl|rfl|rfl<;>omega
     unfold footM;simp only[List.nodup_cons,List.mem_cons,not_or]
     have hz:∀q,(q=db∨q=rb∨q=ob∨q=og∨w.heap.size≤q)→q∉bl.map (fun b=>b.1)++flatB (blTabs bl):=fun q hq hm=>by
      have:=hlow q hm;omega
     refine⟨⟨by omega,by omega,by omega,by omega,by omega,by omega,hz _ (by omega)⟩,⟨by omega,by omega,by omega,by omega,by omega,hz _ (by omega)⟩,⟨by omega,by omega,by omega,by omega,hz _ (by omega)⟩,⟨by omega,by omega,by omega,hz _ (by omega)⟩,⟨by omega,by omega,hz _ (by omega)⟩,⟨by omega,hz _ (by omega)⟩,hz _ (by omega),(perm_blocks bl).nodup_iff.1 hndB⟩
   go_wp2;go_end0
   first|exact⟨rfl,fb,vc,eb,vb,⟨c2,hDM⟩,hfb,by omega,by omega,Hmod.out⟩|exact⟨rfl,fb,vc,eb,vb,c2,hDM,hfb,by omega,by omega,Hmod.out⟩
end
theorem dual_Step_mov {W0:World}{E:Nat→Addr}(db rb cap ob og fb fcap eb vb vcap:Nat)(bbs:List Nat)(bs:List (Nat×Nat))(T:TabM)(Ts:List TabM)(n depth next:Nat)(P:MP)(x:Mtr)(w:World)(h:DuM w db rb cap ob og fb fcap eb vb vcap bbs bs T Ts n depth next)
  (hok:TOk T) (hn:next<T.gs.length) (hfit:Fits bs.length depth Ts (entsG (T.gs.getD next []))) (hM:MetP w P x) (hE:Env W0 E w) (hmf:P.mb∉footM db rb fb eb vb ob og bbs bs) (hb0:W0.heap.size≤P.mb) (hbf:∀q∈footM db rb fb eb vb ob og bbs bs,W0.heap.size≤q):
  Calls Tryz.prog 328 #[dualP db,.pointer (some ⟨P.mb,P.mo,none⟩)] w fun e w'=>e= .returned (.bool true)∧DuM w' db rb cap ob og fb fcap eb vb vcap bbs bs (takeN T next 8) (moveL bs.length depth ((x.add (cU 1) 1).add cV 1,Ts) (entsG (T.gs.getD next []))).2 n depth (next+1)∧MetP w' P (moveL bs.length depth ((x.add (cU 1) 1).add cV 1,Ts) (entsG (T.gs.getD next []))).1∧Mod (P.mb::footM db rb fb eb vb ob og bbs bs) w w':=by
 have hnd:=h.nd;unfold footM at hnd hmf hbf;simp only[List.nodup_cons,List.mem_cons,not_or,List.nodup_append,List.mem_append]at hnd hmf;obtain⟨⟨d1,d2,d3,d4,d5,d6,d7,d8⟩,⟨r1,r2,r3,r4,r5,r6,r7⟩,⟨f1,f2,f3,f4,f5,f6⟩,⟨e1,e2,e3,e4,e5⟩,⟨v1,v2,v3,v4⟩,⟨o1,o2,o3⟩,⟨g1,g2⟩,hn1,hn2,hn3⟩:=hnd;obtain⟨m1,m2,m3,m4,m5,m6,m7,m8,m9⟩:=hmf;have hfl:∀b∈bs,b.1∈flatB bs∧b.2∈flatB bs:=fun b hb=>⟨mem_flatB.2 ⟨b,hb,.inl rfl⟩,mem_flatB.2 ⟨b,hb,.inr rfl⟩⟩
 have hS:=evac_Step (W0:=W0) (E:=E) eb ob og vb vcap depth next bs T Ts P x h.many h.deep w h.ev h.tab hok hn h.tabs hfit hM hE
  (fun b hb=>by
   obtain⟨q1,q2⟩:=hfl b hb;simp only[List.mem_cons,List.not_mem_nil,or_false,not_or]
   exact⟨⟨fun e=>m9 (e▸q1),fun e=>e5 (e▸q1),fun e=>v4 (e▸q1),fun e=>o3 (e▸q1),fun e=>g2 (e▸q1)⟩,⟨fun e=>m9 (e▸q2),fun e=>e5 (e▸q2),fun e=>v4 (e▸q2),fun e=>o3 (e▸q2),fun e=>g2 (e▸q2)⟩⟩)
  (by simp;omega) (by simp;omega) (by simp;omega) hb0 (hbf _ (by simp)) (hbf _ (by simp)) (hbf _ (by simp)) (fun b hb=>⟨hbf _ (by simp[hfl b hb]),hbf _ (by simp[hfl b hb])⟩)
 have bc3:=h.blk.cell 3;have bc4:=h.blk.cell 4;simp only[gl]at bc3 bc4;have HRd:=qd (dual_Ready_yes db fb bs.length fcap w bc3);have HS:=qd hS;have HH:=qd h;unfold dualP at HRd⊢;clear h hS hfit;go_in;go_wp2_with fail;refine(HRd.out).mono ?_;rintro y w1 ⟨rfl,rfl⟩;go_wp2_with fail;refine(HS.out).mono ?_;rintro y w1 ⟨rfl,hEv,hT,hTs,hM1,hm⟩
 have HF:=qd (show DuM w1 db rb cap ob og fb fcap eb vb vcap bbs bs (takeN T next 8) (moveL bs.length depth ((x.add (cU 1) 1).add cV 1,Ts) (entsG (T.gs.getD next []))).2 n depth (next+1)from by
  have hap:∀q,q≠P.mb→q≠eb→q≠ob→q≠og→q∉flatB bs→q∉P.mb::eb::ob::og::flatB bs:=fun q a1 a2 a3 a4 a5=>by simp only[List.mem_cons,not_or];exact⟨a1,a2,a3,a4,a5⟩
  refine⟨HH.out.blk.mod hm (hap _ (by omega) (by omega) (by omega) (by omega) (by assumption)),HH.out.row.mod hm (hap _ (by omega) (by omega) (by omega) (by omega) (by assumption)),fun b hb=>(HH.out.blds b hb).mod hm (hap _ (fun e=>m8 (e▸hb)) (fun e=>e4 (e▸hb)) (fun e=>o2 (e▸hb)) (fun e=>g1 (e▸hb)) (fun hq=>hn3 b hb b hq rfl)),
   HH.out.fresh.mod hm (hap _ (by omega) (by omega) (by omega) (by omega) (by assumption)),hEv,hT,hTs,HH.out.pow,HH.out.many,HH.out.eq,HH.out.deep,HH.out.nd⟩)
 have HM:=qd (hm.more (T:=P.mb::footM db rb fb eb vb ob og bbs bs) (by intro q hq;unfold footM;simp only[List.mem_cons,List.mem_append]at hq⊢;rcases hq with h|h|h|h|h<;>simp[h]));have HM1:=qd hM1;clear hEv hT hTs hM1 hm;go_wp2;go_ret;exact⟨rfl,HF.out,HM1.out,HM.out⟩
section
theorem kOf_full {n k j:Nat}(h:(j+1)*n≤k):kOf n k j=n:=by
 have:=Nat.add_one_mul j n;unfold kOf;omega
theorem kOf_part {n k j:Nat}(h:k<(j+1)*n)(h2:j*n≤k):kOf n k j=k-j*n∧k-j*n<n:=by
 have:=Nat.add_one_mul j n;unfold kOf;omega
theorem kOf_step {n k j:Nat}(h:k<(j+1)*n)(h2:j*n≤k)(i:Nat):kOf n (k+1) i=if i=j then kOf n k j+1 else kOf n k i:=by
 have h3:=Nat.add_one_mul j n;by_cases hij:i=j
 ·subst hij;rw[if_pos rfl];unfold kOf;omega
 ·rw[if_neg hij];unfold kOf;rcases Nat.lt_or_ge i j with hlt|hge
  ·have h4:=Nat.mul_le_mul_right n (show i+1≤j from hlt);have h5:=Nat.add_one_mul i n;omega
  ·have h4:=Nat.mul_le_mul_right n (show j+1≤i by omega);omega
section
variable {w w' : World} {db rb cap ob og : Nat} {bl : List (Nat × Nat × Nat)} {T : TabM} {n depth k j mb : Nat}
theorem ap_of {b c:Nat×Nat×Nat}(hnd:(footB db rb ob og bl).Nodup){i:Nat}(hc:bl[i]?=some c)(hb:bl[j]?=some b)(hne:i≠j):∀q∈blBlocks c,q∉blBlocks b:=by
 unfold footB at hnd;simp only[List.nodup_cons]at hnd;exact nodup_flat (f:=blBlocks) hnd.2.2.2.2 hc hb hne
theorem DuB.stepped (h:DuB w db rb cap ob og bl T n depth k){b:Nat×Nat×Nat}(hb:bl[j]?=some b)(hk1:k<(j+1)*n)(hk2:j*n≤k)(hB:BldAt w' b.1 b.2.1 b.2.2 n (kOf n k j+1))(hm:Mod [mb,b.1,b.2.1,b.2.2] w w')(hmb:mb∉footB db rb ob og bl):
  Blk w' db 273 #[.pointer (some ⟨ob,0,none⟩),.int .i64 (depth:Int),.slice (some ⟨rb,0,none⟩) bl.length cap,.slice none 0 0,.pointer none,.bool false]∧RowAt w' rb (bl.map fun b=>b.1)∧TabAt w' ob og T∧∀(i:Nat) (c:Nat×Nat×Nat),bl[i]?=some c→BldAt w' c.1 c.2.1 c.2.2 n (kOf n (k+1) i):=by
 have hnd:=h.nd;unfold footB at hnd;simp only[List.nodup_cons,List.mem_cons,not_or]at hnd;obtain⟨⟨d1,d2,d3,d4⟩,⟨r1,r2,r3⟩,⟨o1,o2⟩,g1,hn⟩:=hnd;have hbm:=List.mem_of_getElem? hb;have hin:∀q∈blBlocks b,q∈bl.flatMap fun b=> [b.1,b.2.1,b.2.2]:=fun q hq=>List.mem_flatMap.2 ⟨b,hbm,hq⟩
 have hS:∀q,q≠mb→q∉(bl.flatMap fun b=> [b.1,b.2.1,b.2.2])→q∉[mb,b.1,b.2.1,b.2.2]:=fun q h1 h2 h3=>by
  rcases List.mem_cons.1 h3 with e|e
  ·exact h1 e
  ·exact h2 (hin q e)
 have hne:∀q∈footB db rb ob og bl,q≠mb:=fun q hq e=>hmb (e▸hq);refine⟨h.blk.mod hm (hS _ (hne _ (by simp[footB])) d4),h.row.mod hm (hS _ (hne _ (by simp[footB])) r3),h.tab.mod hm (hS _ (hne _ (by simp[footB])) o2) (hS _ (hne _ (by simp[footB])) g1),fun i c hc=> ?_⟩;rw[kOf_step hk1 hk2];by_cases hij:i=j
 ·subst hij;rw[hb]at hc;cases hc;rw[if_pos rfl];exact hB
 ·rw[if_neg hij];have ha:=ap_of h.nd hc hb hij;obtain⟨m1,m2,m3⟩:=mem_footB (db:=db) (rb:=rb) (ob:=ob) (og:=og) (List.mem_of_getElem? hc)
  have hz:∀q∈blBlocks c,q≠mb→q∉[mb,b.1,b.2.1,b.2.2]:=fun q h1 h2 h3=>by
   rcases List.mem_cons.1 h3 with e|e
   ·exact h2 e
   ·exact ha q h1 e
  exact(h.blds i c hc).mod hm (hz _ (by simp[blBlocks]) (hne _ m1)) (hz _ (by simp[blBlocks]) (hne _ m2)) (hz _ (by simp[blBlocks]) (hne _ m3))
end
theorem dual_Step_bld {W0:World}{E:Nat→Addr}(db rb cap ob og:Nat)(bl:List (Nat×Nat×Nat))(T:TabM)(n depth k:Nat)(P:MP)(x:Mtr)(w:World)(h:DuB w db rb cap ob og bl T n depth k)
  (hM:MetP w P x) (hE:Env W0 E w) (hmF:P.mb∉footB db rb ob og bl) (hb0:W0.heap.size≤P.mb) (hbF:∀q∈footB db rb ob og bl,W0.heap.size≤q):
  Calls Tryz.prog 328 #[dualP db,.pointer (some ⟨P.mb,P.mo,none⟩)] w fun e w'=>e= .returned (.bool true)∧MetP w' P ((x.add cV 1).add (cU 1) 1)∧Mod (P.mb::footB db rb ob og bl) w w'∧(if k+1=n*bl.length then∃fb fcap eb vb vcap,DuM w' db rb cap ob og fb fcap eb vb vcap (bl.map fun b=>b.1) (blTabs bl) T (List.replicate bl.length (prepT n n)) n depth 0∧w.heap.size≤fb∧w.heap.size≤eb∧w.heap.size≤vb else DuB w' db rb cap ob og bl T n depth (k+1)):=by
 have hml:=hM.lt;have HH:=qd h;have hle:=h.pow.le;have hpos:=h.pow.pos;have hklt:=h.lt;obtain⟨n1,n2⟩:=h.many;have bc2:=h.blk.cell 2;have bc3:=h.blk.cell 3;simp only[gl]at bc2 bc3;have HRd:=qd (dual_Ready_no db w bc3);have HM:=qd hM;have HE:=qd hE;unfold dualP at HRd⊢;clear h hM hE;go_in;go_wp2_with fail;refine(HRd.out).mono ?_;rintro y w1 ⟨rfl,rfl⟩;go_wp2;clear bc2 bc3 HRd;go_loopw [4,5,6,20] (fun _ _ _ i wr=>∃j:Nat,j≤bl.length∧i= .int .i64 j∧j*n≤k∧Below w.heap.size w wr) (fun _ _ _ i _=>bl.length-(intOf i).toNat)
 case atStart=>exact⟨0,by omega,rfl,by omega,Below.refl _ _⟩
 case round=>
  obtain⟨j,hj,rfl,hjk,hb⟩:=hrel;by_cases hlt:j<bl.length
  ·have hlt':(j:Int)<(bl.length:Int):=by omega
   have hj0:(0:Int)≤(j:Int):=by omega
   obtain⟨b,hbi⟩:∃b,bl[j]?=some b:=⟨_,List.getElem?_eq_getElem hlt⟩;have hbm:=List.mem_of_getElem? hbi;have hD:=HH.out.mod (Mod.of_below hb []) (by simp);have hrw:=hD.row.at_ j b.1 (by rw[List.getElem?_map,hbi];rfl);have hbld:=hD.blds j b hbi;by_cases hfull:(j+1)*n≤k
   ·rw[kOf_full hfull]at hbld;have HC:=qd (build_Step_no b.1 b.2.1 b.2.2 n (.pointer (some ⟨P.mb,P.mo,none⟩)) wr hbld);have HB:=qd hb;unfold bldP at HC;clear hbi hD hbld hb;go_wp2_with fail;refine(HC.out).mono ?_;rintro y w2 ⟨rfl,hb2⟩;have HB2:=qd (HB.out.trans (hb2.mono HB.out.size));clear hb2;go_wp2;go_roundw
    case rel=>exact⟨j+1,by omega,by go_num,hfull,HB2.out⟩
    case measure=>simp[intOf];omega
   ·have hpart:k<(j+1)*n:=by omega
    obtain⟨hko,hkn⟩:=kOf_part hpart hjk;have hmul:=Nat.add_one_mul j n;have hbf:=hbF;have hmf:=hmF;obtain⟨q1,q2,q3⟩:=mem_footB (db:=db) (rb:=rb) (ob:=ob) (og:=og) hbm;have hne:∀q∈footB db rb ob og bl,P.mb≠q:=fun q hq e=>hmf (e▸hq);have HC:=qd (build_Step (W0:=W0) (E:=E) b.1 b.2.1 b.2.2 n (kOf n k j) P x (by omega) wr hbld (HM.out.below hb) (HE.out.next hb) (hne _ q1) (hne _ q2) (hne _ q3) hb0 (hbf _ q1) (hbf _ q2) (hbf _ q3));have HD:=qd hD;have HB:=qd hb;have HBi:=qd hbi;unfold bldP at HC;clear hbi hD hbld hb;go_wp2_with fail;refine(HC.out).mono ?_;rintro y w2 ⟨rfl,hB2,hM2,hm⟩;have hpc:=HD.out.stepped HBi.out hpart hjk hB2 hm hmf;have HPc:=qd hpc;have HM2:=qd hM2;have HB2:=qd hB2;have hmt:Mod (P.mb::footB db rb ob og bl) w w2:=(Mod.of_below HB.out _).then (hm.more (by intro q hq;simp only[List.mem_cons,List.not_mem_nil,or_false]at hq⊢;rcases hq with rfl|rfl|rfl|rfl;exact .inl rfl;exact .inr q1;exact .inr q2;exact .inr q3));have HMt:=qd hmt;have bc2:=hpc.1.cell 2;simp only[gl]at bc2;have hnl:n*bl.length=bl.length*n:=Nat.mul_comm _ _;clear hpc hmt hM2 hm hB2;by_cases hlast:j+1=bl.length
    ·have hjl:(j:Int)=(bl.length:Int)-1:=by omega
     have hlm:bl.length*n=(j+1)*n:=by rw[hlast]
     have HLf:=qd (build_Left b.1 n (kOf n k j+1) _ w2 HB2.out.le hle HB2.out.blk);unfold bldP at HLf;obtain⟨dl,hdl⟩:∃dl,dl=n-(kOf n k j+1):=⟨_,rfl⟩;rw[←hdl]at HLf;by_cases hall:k+1=n*bl.length
     ·have hd0:dl=0:=by omega
      have hbg:∀(i:Nat) (q:Nat×Nat×Nat),bl[i]?=some q→BldAt w2 q.1 q.2.1 q.2.2 n n:=fun i q hq=>by
       have hi:=(List.getElem?_eq_some_iff.1 hq).1;have h1:=HPc.out.2.2.2 i q hq;have h2:=Nat.mul_le_mul_right n (show i+1≤bl.length by omega)
       rwa [kOf_full (by omega)]at h1
      have hBg:BgAt w2 bl n 0:=⟨fun i q hq _=>hbg i q hq,fun i q _ hi=>by omega,fun i q hq=>(hbg i q hq).tab⟩;have HBg:=qd (fun V (hV:Mod [] w2 V)=>dual_begin db rb cap ob og bl T n depth ⟨n1,n2⟩ HH.out.deep HH.out.pow HH.out.nd V (HPc.out.1.mod hV (by simp)) (HPc.out.2.1.mod hV (by simp)) (HPc.out.2.2.1.mod hV (by simp) (by simp)) (hBg.mod hV (by simp)));unfold dualP at HBg;rw[hd0]at HLf;clear hbg hBg hdl hd0;go_wp2_with fail;refine(HLf.out).mono ?_;rintro y w3 ⟨rfl,hw3⟩;have hm3:Mod [] w2 w3:=hw3▸Mod.drewN [] w2 1;have HB3:=qd (HBg.out w3 hm3);have HM3:=qd (HM2.out.mod hm3 (by simp));have HMt3:=qd (HMt.out.then (hm3.more (by simp)));have HS3:=qd hm3.size;have HS4:=qd HMt.out.size;clear hw3 hm3;go_wp2_with fail;refine(HB3.out).mono ?_;rintro y w4 ⟨rfl,fb,fcap,eb,vb,hrest⟩;have HRs:=qd hrest;clear hrest;go_wp2;go_ret;obtain⟨vcap,hDM,hfb,heb,hvb,hm4⟩:=HRs.out;have hs3:=HS3.out;have hs4:=HS4.out;refine⟨rfl,HM3.out.mod hm4 hmf,HMt3.out.then (hm4.more (fun q hq=>List.mem_cons_of_mem _ hq)), ?_⟩
      try rw[if_pos hall]
      exact⟨fb,fcap,eb,vb,by first|exact⟨vcap,hDM,by omega,by omega,by omega⟩|exact⟨⟨vcap,hDM⟩,by omega,by omega,by omega⟩⟩
     ·have hd0:¬(dl:Int)=0:=by omega
      have hd1:¬dl=0:=by omega
      clear hdl;go_wp2_with fail;refine(HLf.out).mono ?_;rintro y w3 ⟨rfl,hw3⟩;have HW3:=qd (show Mod [] w2 w3 from hw3▸Mod.drewN [] w2 1);clear hw3;go_wp2;go_ret;refine⟨rfl,HM2.out.mod HW3.out (by simp),HMt.out.then (HW3.out.more (by simp)), ?_⟩
      try rw[if_neg hall]
      exact⟨HPc.out.1.mod HW3.out (by simp),HPc.out.2.1.mod HW3.out (by simp),fun i q hq=>(HPc.out.2.2.2 i q hq).mod HW3.out (by simp) (by simp) (by simp),HPc.out.2.2.1.mod HW3.out (by simp) (by simp),HH.out.pow,HH.out.many,by omega,HH.out.deep,HH.out.nd⟩
    ·have hjl:¬(j:Int)=(bl.length:Int)-1:=by omega
     have h2:=Nat.mul_le_mul_right n (show j+1+1≤bl.length by omega);have h3:=Nat.add_one_mul (j+1) n
     have hall:¬k+1=n*bl.length:=by omega
     go_wp2;go_ret;refine⟨rfl,HM2.out,HMt.out, ?_⟩
     try rw[if_neg hall]
     exact⟨HPc.out.1,HPc.out.2.1,HPc.out.2.2.2,HPc.out.2.2.1,HH.out.pow,HH.out.many,by omega,HH.out.deep,HH.out.nd⟩
  ·exfalso
   obtain rfl:j=bl.length:=by omega
   have:=Nat.mul_comm bl.length n;omega
end
section
variable {w w' wr : World} {base db depth g n ob og : Nat} {e t : TypeId} {cs : Array Value} {v : Value} {xs : List Value} {T : TabM} {bl : List (Nat × Nat × Nat)}
structure NwAt (w wr:World)(db ob og:Nat)(T:TabM)(n depth:Nat)(bl:List (Nat×Nat×Nat))(v:Value):Prop where
 blk:Blk wr db 273 #[.pointer (some ⟨ob,0,none⟩),.int .i64 (depth:Int),v,.slice none 0 0,.pointer none,.bool false]
 own:wr.ownsRow w.heap.size 274 1 v bl.length (ptrs (bl.map fun b=>b.1))
 blds:∀(i:Nat) (b:Nat×Nat×Nat),bl[i]?=some b→BldAt wr b.1 b.2.1 b.2.2 n 0
 tab:TabAt wr ob og T
 nd:(db::bl.flatMap blBlocks).Nodup
 low:∀q∈db::bl.flatMap blBlocks,w.heap.size≤q∧q<wr.heap.size
 old:ob<w.heap.size∧og<w.heap.size
 below:Below w.heap.size w wr
theorem blk_type {t':TypeId}{cs':Array Value}{z:Nat×Nat}(h:Blk w g t cs)(h':w.heap[g]?=some (.cells cs' t' z)):t=t':=by
 have h0:w.heap[g]?=_:=h;rw[h0]at h';cases h';rfl
def DuNew (w w':World)(db ob og:Nat)(T:TabM)(n m depth:Nat):Prop:=
 ∃rb cap bl,w.heap.size≤db∧w.heap.size≤rb∧(∀q∈bl.flatMap blBlocks,w.heap.size≤q)∧bl.length=m∧DuB w' db rb cap ob og bl T n depth 0
theorem own_apt (h:w.ownsRow base e 1 v n xs)(hB:Blk w g t cs)(ht:t≠e):some g≠v.ownBlock:=by
 rcases h.2 with⟨rfl,_⟩|⟨q,c,cur,rfl,_,hg,_⟩
 ·simp[Value.ownBlock]
 ·intro hq;simp[Value.ownBlock]at hq;subst hq;exact ht (blk_type hB hg)
theorem own_keep (h:w.ownsRow base e 1 v n xs)(hg:w.grownBy w' v.ownBlock)(hB:Blk w g t cs)(ht:t≠e):Blk w' g t cs:=
 (hg.block g hB.lt (own_apt h hB ht)).trans hB
theorem own_far {S:List Nat}(h:w.ownsRow base e 1 v n xs)(hm:Mod S w w')(hS:∀k,v.ownBlock=some k→k∉S):w'.ownsRow base e 1 v n xs:=by
 refine⟨h.1, ?_⟩;rcases h.2 with hn|⟨g,cap,cur,hv,hb,hg,rest⟩
 ·exact .inl hn
 ·exact .inr ⟨g,cap,cur,hv,hb,(hm.block g (Array.getElem?_eq_some_iff.1 hg).1 (hS g (by rw[hv];rfl))).trans hg,rest⟩
theorem NwAt.next {w2 w4:World}{bb tb gb:Nat}{l:Nat}{v4:Value}(h:NwAt w wr db ob og T n depth bl v)(hl:bl.length+1=l)(hb:Below wr.heap.size wr w2)(hB:BldAt w2 bb tb gb n 0)(h1:wr.heap.size≤bb)(h2:wr.heap.size≤tb)(h3:wr.heap.size≤gb)(hown:w4.ownsRow w.heap.size 274 1 v4 l (ptrs (bl.map fun b=>b.1)++[.pointer (some ⟨bb,0,none⟩)]))(hg:Grew w2 w.heap.size v w4 v4):NwAt w (w4.setCell ⟨db,2,none⟩ v4) db ob og T n depth (bl++[(bb,tb,gb)]) v4:=by
 subst hl;have hO2:=own_below h.own hb (Nat.le_refl _);have hD2:=h.blk.mod (Mod.of_below hb []) (by simp);have hD4:=own_keep hO2 hg.by_ hD2 (by decide)
 have hK:∀q1 q2 q3 k,BldAt w2 q1 q2 q3 n k→BldAt w4 q1 q2 q3 n k:=fun q1 q2 q3 k hq=>
  ⟨own_keep hO2 hg.by_ hq.blk (by decide),⟨hq.tab.wide,own_keep hO2 hg.by_ hq.tab.tab (by decide),own_keep hO2 hg.by_ hq.tab.grp (by decide),hq.tab.ne⟩,hq.le,hq.pow,hq.ne1,hq.ne2⟩
 have hm:Mod [db] w4 (w4.setCell ⟨db,2,none⟩ v4):=(Mod.refl [db] w4).sl 2 v4;have hlow:=h.low;have hsz:=hb.size;have hsz4:=hg.size;have hwl:=h.below.size;have hnd:=List.nodup_cons.1 h.nd;have hBl:=hB.lt;have hBt:=hB.ltT;have hBg:=hB.ltG;have hdl:=hlow db (by simp)
 have hf:(bl++[(bb,tb,gb)]).flatMap blBlocks=bl.flatMap blBlocks++[bb,tb,gb]:=by simp[blBlocks]
 have hq:∀q∈bl.flatMap blBlocks,q≠db:=fun q hq e=>hnd.1 (e▸hq);have hbq:∀q1 q2 q3 k,BldAt w4 q1 q2 q3 n k→q1≠db→q2≠db→q3≠db→BldAt (w4.setCell ⟨db,2,none⟩ v4) q1 q2 q3 n k:=fun q1 q2 q3 k hh a1 a2 a3=>hh.mod hm (by simpa using a1) (by simpa using a2) (by simpa using a3);refine⟨by simpa using hD4.set_ 2 v4, ?_,fun i b hi=> ?_, ?_, ?_,fun q hq2=> ?_,h.old, ?_⟩
 ·have hp:ptrs ((bl++[(bb,tb,gb)]).map fun b=>b.1)=ptrs (bl.map fun b=>b.1)++[.pointer (some ⟨bb,0,none⟩)]:=by simp[ptrs]
  rw[hp,List.length_append];refine own_far hown hm fun k hk=> ?_;simp only[List.mem_singleton];rintro rfl;exact own_apt hown hD4 (by decide) hk.symm
 ·by_cases hlt:i<bl.length
  ·rw[List.getElem?_append_left hlt]at hi;have hbm:=List.mem_of_getElem? hi;have hin:∀q∈blBlocks b,q∈bl.flatMap blBlocks:=fun q hq=>List.mem_flatMap.2 ⟨b,hbm,hq⟩;exact hbq _ _ _ _ (hK _ _ _ _ ((h.blds i b hi).mod (Mod.of_below hb []) (by simp) (by simp) (by simp))) (hq _ (hin _ (by simp[blBlocks]))) (hq _ (hin _ (by simp[blBlocks]))) (hq _ (hin _ (by simp[blBlocks])))
  ·rw[List.getElem?_append_right (by omega)]at hi
   have h0:i-bl.length=0:=by
    rcases Nat.eq_zero_or_pos (i-bl.length)with e|e
    ·exact e
    ·rw[List.getElem?_eq_none (by simp;omega)]at hi;cases hi
   rw[h0]at hi;simp at hi;subst hi;exact hbq bb tb gb 0 (hK bb tb gb 0 hB) (by omega) (by omega) (by omega)
 ·have hT2:=h.tab.below hb;have ho:=h.old;exact⟨hT2.wide,(own_keep hO2 hg.by_ hT2.tab (by decide)).mod hm (by simp;omega),(own_keep hO2 hg.by_ hT2.grp (by decide)).mod hm (by simp;omega),hT2.ne⟩
 ·rw[hf,←List.cons_append,List.nodup_append];refine⟨h.nd, ?_,fun a ha b hb2=> ?_⟩
  ·have:=hB.ne1;have:=hB.ne2;have:=hB.tab.ne;simp;omega
  ·have:=hlow a ha;simp at hb2;omega
 ·rw[hf,←List.cons_append,List.mem_append]at hq2
  have hs:(w4.setCell ⟨db,2,none⟩ v4).heap.size=w4.heap.size:=by simp
  rcases hq2 with hq2|hq2
  ·have:=hlow q hq2;omega
  ·simp at hq2;omega
 ·have hb4:Below w.heap.size w w4:=(h.below.trans (hb.mono hwl)).trans hg.below;exact hb4.trans (hm.below (by intro k hk;simp at hk;omega) hb4.size)
theorem NwAt.done (h:NwAt w wr db ob og T n depth bl v)(hn:Pw n)(hm:1≤bl.length∧bl.length≤2)(hd:depth≤15):
  ∃rb cap,DuB wr db rb cap ob og bl T n depth 0∧w.heap.size≤rb:=by
 obtain⟨A,cap,rfl⟩:=own_form h.own;obtain⟨rb,rfl,hrb,hrow,_⟩:=RowAt.of_own h.own (by omega)
 obtain⟨g,cap',cur,hv,_,hg,_⟩:∃g cap' cur,(Value.slice (some ⟨rb,0,none⟩) bl.length cap)= .slice (some ⟨g,0,none⟩) bl.length cap'∧w.heap.size≤g∧wr.heap[g]?=some (.cells cur 274 (0,0))∧True:=by
  rcases h.own.2 with⟨he,_⟩|⟨g,c,cur,hv,hb,hg,_⟩
  ·cases he
  ·exact⟨g,c,cur,hv,hb,hg,trivial⟩
 cases hv;have hpos:=hn.pos;have hnd:=List.nodup_cons.1 h.nd;have hl0:=h.low db (by simp)
 have hrq:∀q∈bl.flatMap blBlocks,rb≠q:=fun q hq e=>by
  subst e;obtain⟨b,hb,hqb⟩:=List.mem_flatMap.1 hq;obtain⟨i,hi⟩:=List.getElem?_of_mem hb;have hB:=h.blds i b hi;simp only[blBlocks,List.mem_cons,List.not_mem_nil,or_false]at hqb;rcases hqb with rfl|rfl|rfl
  ·exact absurd (blk_type hB.blk hg) (by decide)
  ·exact absurd (blk_type hB.tab.tab hg) (by decide)
  ·exact absurd (blk_type hB.tab.grp hg) (by decide)
 have hrd:rb≠db:=fun e=>by subst e;exact absurd (blk_type h.blk hg) (by decide)
 have hold:=h.old
 have hoq:∀q,q<w.heap.size→q∉bl.flatMap blBlocks:=fun q hq hm=>by
  have:=(h.low q (List.mem_cons_of_mem _ hm)).1;omega
 have hne:=h.tab.ne;refine⟨rb,cap,⟨h.blk,hrow,fun i b hb=> ?_,h.tab,hn,hm,Nat.mul_pos hpos (by omega),hd, ?_⟩,hrb⟩
 ·have:kOf n 0 i=0:=by unfold kOf;omega
  rw[this];exact h.blds i b hb
 ·unfold footB;show(db::rb::ob::og::bl.flatMap blBlocks).Nodup;simp only[List.nodup_cons,List.mem_cons,not_or];exact⟨⟨by omega,by omega,by omega,hnd.1⟩,⟨by omega,by omega,fun hq=>hrq rb hq rfl⟩,⟨hne,hoq _ hold.1⟩,hoq _ hold.2,hnd.2⟩
end
def needsB (l t:Int)(g:Nat):Bool:=decide (4*(g:Int)≤l)||decide (4*(g:Int)-l≤t)
def whichK (l t:Int)(g lo gl:Nat):Nat:=if needsB l t g=false then 0 else if l≤2*(g:Int)then 1 else if 8≤g∧lo<gl then 3 else if g<64 then 2 else 1
def doubleB (l t:Int)(g lo gl:Nat):Bool:=needsB l t g && (decide (2*(g:Int)<l) && (decide (8≤g) && (decide (lo=gl) && decide (gl<5))))
end Go.Proofs.YtfbljmcjadfkoaaGreatDoor
