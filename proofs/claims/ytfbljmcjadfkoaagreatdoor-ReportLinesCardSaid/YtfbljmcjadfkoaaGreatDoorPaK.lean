/- ReportLines: its first fact, the chapter's example. -/
import Derived.Test.YtfbljmcjadfkoaaGreatDoorPaI
import Derived.Test.YtfbljmcjadfkoaaGreatDoorSq
import Derived.Test.YtfbljmcjadfkoaaGreatDoorCoEnv
import Derived.Test.YtfbljmcjadfkoaaGreatDoorSqT
namespace Go.Proofs.YtfbljmcjadfkoaaGreatDoor
set_option maxRecDepth 100000
set_option maxHeartbeats 8000000
open Go.RowKit Go.Shelf AmC AmL AmF AmD AmS
def nanLine:Bts:=[117,110,105,116,115,32,48,32,48,32,110,97,110,32,110,97,110,32,110,97,110]
theorem lines_alive (n3 n4 n5 n6:Int):(linesB [0,0,0,0,0,0,0,0] [0,0,0,n3,n4,n5,n6] [] [] 0 0).length=17∧(linesB [0,0,0,0,0,0,0,0] [0,0,0,n3,n4,n5,n6] [] [] 0 0)[15]?=some nanLine∧(linesB [0,0,0,0,0,0,0,0] [0,0,0,n3,n4,n5,n6] [] [] 0 0)[0]?=some [103,101,116,32,48]:=by
 have h1:unitsB++32::rowB [] 0=nanLine:=by decide+kernel
 have h0:lineN (names.getD (0+1) []) ([(0:Int),0,0,0,0,0,0,0].getD 0 0)=[103,101,116,32,48]:=by decide+kernel
 unfold linesB;refine⟨rfl, ?_, ?_⟩
 ·rw[h1];rfl
 ·rw[List.getElem?_append_left (by simp[headC];omega),List.getElem?_append_left (by simp[headC])];unfold headC;rw[List.getElem?_map];show some (lineN (names.getD (0+1) []) _)=_;rw[h0]
theorem law40_alive {W0:World}{E:Nat→Addr}{w:World}(hE:Env W0 E w)(h3:ErrAt E W0 3)(h8:ErrAt E W0 8)(h9:ErrAt E W0 9)(hT:PowIn w)(hNm:NamesIn w):
  Calls Tryz.prog 4 #[] w fun y w'=>y= .returned (.bool true)∧Below w.heap.size w w':=by
 have HOf:=qd (report_OfNone hE h3 h8 h9)
 have HLi:=qd (fun(W:World) (hb:Below w.heap.size w W) (n3 n4 n5 n6 t0 t1 t2:Int) (u p:Value) (hn:i64B n3∧i64B n4∧i64B n5∧i64B n6) (hu:Rec W u [] 0) (hp:Rec W p [] 0)=>report_Lines 0 0 0 0 0 0 0 0 0 0 0 n3 n4 n5 n6 t0 t1 t2 (by intro z hz;simp only[List.mem_cons,List.not_mem_nil,or_false,or_self]at hz;subst hz;unfold i64B;omega) (by
  intro z hz;simp only[List.mem_cons,List.not_mem_nil,or_false]at hz;rcases hz with rfl|rfl|rfl|rfl|rfl|rfl|rfl
  ·unfold i64B;omega
  ·unfold i64B;omega
  ·unfold i64B;omega
  ·exact hn.1
  ·exact hn.2.1
  ·exact hn.2.2.1
  ·exact hn.2.2.2) hu hp ⟨by simp,by omega,fun q hq=>by cases hq⟩ ⟨by simp,by omega,fun q hq=>by cases hq⟩ (pow_next hT hb) (names_next hNm hb))
 clear hE h3 h8 h9 hT hNm;unfold cfgV at HOf;unfold repV at HOf HLi;go_in;go_wp2_with fail;refine HOf.out.mono ?_;rintro y w1 ⟨n3,n4,n5,n6,t0,t1,t2,u,p,rfl,hn,hu,hp,hb1⟩
 obtain⟨pu,rfl⟩:∃pu,u= .pointer pu:=by rcases hu with⟨rfl,_⟩|⟨_,_,_,rfl,_⟩<;>exact⟨_,rfl⟩
 obtain⟨pp,rfl⟩:∃pp,p= .pointer pp:=by rcases hp with⟨rfl,_⟩|⟨_,_,_,rfl,_⟩<;>exact⟨_,rfl⟩
 have HN:=qd hn;have HU:=qd hu;have HP:=qd hp;have HB:=qd hb1;clear hn hu hp hb1 HOf;rename_i hK0;refine hK0 _ _ ?_;clear hK0
 iterate 12 go_step
 have hBt:=Blk.new w1 39 #[.int .i64 0,.int .i64 0,.int .i64 0,.int .i64 0,.int .i64 0,.int .i64 0,.int .i64 0,.int .i64 0,.int .i64 0,.int .i64 0,.int .i64 0,.pointer none,.pointer none,.int .i64 0,.int .i64 0,.int .i64 0,.int .i64 0,.int .i64 0,.int .i64 0,.int .i64 0];have hRw:=World.setRow_alloc_new w1 #[.int .i64 0,.int .i64 0,.int .i64 0,.int .i64 0,.int .i64 0,.int .i64 0,.int .i64 0,.int .i64 0,.int .i64 0,.int .i64 0,.int .i64 0,.pointer none,.pointer none,.int .i64 0,.int .i64 0,.int .i64 0,.int .i64 0,.int .i64 0,.int .i64 0,.int .i64 0] #[.int .i64 0,.int .i64 0,.int .i64 0,.int .i64 0,.int .i64 0,.int .i64 0,.int .i64 0,.int .i64 0,.int .i64 0,.int .i64 0,.int .i64 0,.pointer pu,.pointer pp,.int .i64 n3,.int .i64 n4,.int .i64 n5,.int .i64 n6,.int .i64 t0,.int .i64 t1,.int .i64 t2] 39;refine wpList_store_row rfl 39 (.tmp 1) (.tmp 7) rfl w1.heap.size #[.int .i64 0,.int .i64 0,.int .i64 0,.int .i64 0,.int .i64 0,.int .i64 0,.int .i64 0,.int .i64 0,.int .i64 0,.int .i64 0,.int .i64 0,.pointer pu,.pointer pp,.int .i64 n3,.int .i64 n4,.int .i64 n5,.int .i64 n6,.int .i64 t0,.int .i64 t1,.int .i64 t2] rfl rfl 39 #[.int .i64 0,.int .i64 0,.int .i64 0,.int .i64 0,.int .i64 0,.int .i64 0,.int .i64 0,.int .i64 0,.int .i64 0,.int .i64 0,.int .i64 0,.pointer none,.pointer none,.int .i64 0,.int .i64 0,.int .i64 0,.int .i64 0,.int .i64 0,.int .i64 0,.int .i64 0] hBt (by kernel_rfl) rfl (by simp[Value.oneCell']) ?_
 rw[hRw];clear hBt hRw;refine nameW (F:=fun v=>Blk v w1.heap.size 39 #[.int .i64 0,.int .i64 0,.int .i64 0,.int .i64 0,.int .i64 0,.int .i64 0,.int .i64 0,.int .i64 0,.int .i64 0,.int .i64 0,.int .i64 0,.pointer pu,.pointer pp,.int .i64 n3,.int .i64 n4,.int .i64 n5,.int .i64 n6,.int .i64 t0,.int .i64 t1,.int .i64 t2]∧Below w1.heap.size w1 v) ⟨Blk.new w1 39 #[.int .i64 0,.int .i64 0,.int .i64 0,.int .i64 0,.int .i64 0,.int .i64 0,.int .i64 0,.int .i64 0,.int .i64 0,.int .i64 0,.int .i64 0,.pointer pu,.pointer pp,.int .i64 n3,.int .i64 n4,.int .i64 n5,.int .i64 n6,.int .i64 t0,.int .i64 t1,.int .i64 t2],(Below.refl _ _).alloc (Nat.le_refl _) _⟩ ?_;rintro w2 ⟨hR2,hb2⟩;obtain⟨br,hbr⟩:∃br,br=w1.heap.size:=⟨_,rfl⟩;rw[←hbr]at hR2⊢;have HU2:=qd (HU.out.below hb2);have HP2:=qd (HP.out.below hb2);have HB2:=qd (HB.out.trans (hb2.mono HB.out.size));clear hb2 hbr HU HP HB;go_upto_region 2 with fail;go_step;refine wpList_load_row rfl 39 (.tmp 1) rfl br rfl 39 #[.int .i64 0,.int .i64 0,.int .i64 0,.int .i64 0,.int .i64 0,.int .i64 0,.int .i64 0,.int .i64 0,.int .i64 0,.int .i64 0,.int .i64 0,.pointer pu,.pointer pp,.int .i64 n3,.int .i64 n4,.int .i64 n5,.int .i64 n6,.int .i64 t0,.int .i64 t1,.int .i64 t2] (0,0) _ hR2 Tryz.underlying39 rfl (by kernel_rfl) ?_;clear hR2;go_wp2_with fail;refine(HLi.out w2 HB2.out n3 n4 n5 n6 t0 t1 t2 (.pointer pu) (.pointer pp) HN.out HU2.out HP2.out).mono ?_
 rintro y w3 ⟨v,rfl,hS,hb3⟩;have HB3:=qd (HB2.out.trans (hb3.mono HB2.out.size));obtain⟨g1,g2,g3⟩:=lines_alive n3 n4 n5 n6;obtain⟨A,c,rfl,hR⟩:=strs_reads hS;obtain⟨g,off,rfl,hlt,hcell⟩:=hR.2 (by rw[g1];omega);have r15:=hcell 15 _ (by rw[List.getElem?_map,g2];rfl);have r0:=hcell 0 _ (by rw[List.getElem?_map,g3];rfl);replace r15:w3.cell? ⟨g,off+15,none⟩=some (.string ⟨#[117,110,105,116,115,32,48,32,48,32,110,97,110,32,110,97,110,32,110,97,110]⟩):=r15;replace r0:w3.cell? ⟨g,off+0,none⟩=some (.string ⟨#[103,101,116,32,48]⟩):=r0;rw[g1];clear hS hR hcell g1 g2 g3 hb3 HN HU2 HP2 HB2 HLi;have r00:=r0;rw[Nat.add_zero]at r00;go_wp2;go_ret;exact⟨rfl,HB3.out⟩
def unitsC (k:Int):Int:=if 1≤k∧k≤64 then 24*k+160 else 0
theorem plan_times160 (k m i:Int)(w:World):Calls Tryz.prog 26 #[.agg #[.int .i64 k,.int .i64 m,.int .i64 i],.int .i64 24,.int .i64 160] w fun y w'=>y= .returned (.int .i64 (unitsC k))∧Below w.heap.size w w':=by
 have HB:=qd ((Below.refl w.heap.size w).alloc (Nat.le_refl _) (.cells #[.int .i64 k,.int .i64 m,.int .i64 i] 23));by_cases h1:1≤k
 ·by_cases h2:k≤64
  ·have HV:=qd (show unitsC k=24*k+160 from by unfold unitsC;rw[if_pos ⟨h1,h2⟩])
   have hw1:IntKind.i64.wrap (24*k)=24*k:=by rw[IntKind.wrap_i64];omega
   have hw2:IntKind.i64.wrap (24*k+160)=24*k+160:=by rw[IntKind.wrap_i64];omega
   rw[HV.out]
   have HI:=qd (fun(W:World)=>show Calls Tryz.prog 51 #[.int .i64 k,.int .i64 64] W (fun y w'=>y= .returned (.bool true)∧W=w')from by
    go_in;go_wp2;go_ret
    exact⟨by first|rfl|simp[h1,h2],rfl⟩)
   go_in;go_wp2_with fail;refine(HI.out _).mono ?_;rintro y w1 ⟨rfl,rfl⟩;go_wp2;go_ret;exact⟨rfl,HB.out⟩
  ·have HV:=qd (show unitsC k=0 from by unfold unitsC;rw[if_neg (by omega)]);rw[HV.out]
   have HI:=qd (fun(W:World)=>show Calls Tryz.prog 51 #[.int .i64 k,.int .i64 64] W (fun y w'=>y= .returned (.bool false)∧W=w')from by
    go_in;go_wp2;go_ret
    exact⟨by first|rfl|simp[h1,h2],rfl⟩)
   go_in;go_wp2_with fail;refine(HI.out _).mono ?_;rintro y w1 ⟨rfl,rfl⟩;go_wp2;go_ret;exact⟨rfl,HB.out⟩
 ·have HV:=qd (show unitsC k=0 from by unfold unitsC;rw[if_neg (by omega)]);rw[HV.out]
  have HI:=qd (fun(W:World)=>show Calls Tryz.prog 51 #[.int .i64 k,.int .i64 64] W (fun y w'=>y= .returned (.bool false)∧W=w')from by
   go_in;go_wp2;go_ret
   exact⟨by first|rfl|simp[h1],rfl⟩)
  go_in;go_wp2_with fail;refine(HI.out _).mono ?_;rintro y w1 ⟨rfl,rfl⟩;go_wp2;go_ret;exact⟨rfl,HB.out⟩
theorem plan_Units (k m i:Int)(w:World):Calls Tryz.prog 11 #[.agg #[.int .i64 k,.int .i64 m,.int .i64 i]] w fun y w'=>y= .returned (.int .i64 (unitsC k))∧Below w.heap.size w w':=by
 have hB:=(Below.refl w.heap.size w).alloc (Nat.le_refl _) (.cells #[.int .i64 k,.int .i64 m,.int .i64 i] 23);have HT:=qd (fun(W:World)=>plan_times160 k m i W);have HB:=qd hB;clear hB;go_in;go_wp2_with fail;refine(HT.out _).mono ?_;rintro y w1 ⟨rfl,hb1⟩;have HB1:=qd (HB.out.trans (hb1.mono HB.out.size));clear hb1;go_wp2;go_ret;exact⟨rfl,HB1.out⟩
theorem plan_Probes (w:World):Calls Tryz.prog 25 #[] w fun y w'=>y= .returned (.int .i64 194)∧w=w':=by
 go_in;go_wp2;go_ret;exact⟨rfl,rfl⟩
def badB (k:Int)(l m:PL):Bool:=decide (unitsC k<(mostP l:Int))||decide (194<(mostP m:Int))
theorem report_Bad {w:World}{u p:Value}{l m:PL}{n k:Nat}(k0 m0 i0 c0 c1 c2 c3 c4 c5 c6 c7 n0 n1 n2 n3 n4 n5 n6 t0 t1 t2:Int)(hu:Rec w u l n)(hp:Rec w p m k)(hlu:PaOk l n)(hlp:PaOk m k):
  Calls Tryz.prog 10 #[.agg #[.int .i64 k0,.int .i64 m0,.int .i64 i0],repV c0 c1 c2 c3 c4 c5 c6 c7 n0 n1 n2 n3 n4 n5 n6 t0 t1 t2 u p] w fun y w'=>y= .returned (.bool (badB k0 l m))∧Below w.heap.size w w':=by
 have HRu:=qd (fun(W:World) (hb:Below w.heap.size w W)=>rec_record (hu.below hb));have HRp:=qd (fun(W:World) (hb:Below w.heap.size w W)=>rec_record (hp.below hb));obtain⟨a,ha⟩:∃a,a=mostP l:=⟨_,rfl⟩;obtain⟨b,hb⟩:∃b,b=mostP m:=⟨_,rfl⟩;have HMu:=qd (fun(W:World) (rb base:Nat) (F:List Nat) (h:PaR base W rb F l n)=>show Calls Tryz.prog 16 #[.pointer (some ⟨rb,0,none⟩)] W (fun y w'=>y= .returned (.int .i64 (a:Int))∧Below W.heap.size W w')from ha▸(pa_Most h hlu.len).mono fun y w' ⟨a,k,b⟩=>⟨a,b▸below_drewN (Below.refl _ _) k⟩);have HMp:=qd (fun(W:World) (rb base:Nat) (F:List Nat) (h:PaR base W rb F m k)=>show Calls Tryz.prog 16 #[.pointer (some ⟨rb,0,none⟩)] W (fun y w'=>y= .returned (.int .i64 (b:Int))∧Below W.heap.size W w')from hb▸(pa_Most h hlp.len).mono fun y w' ⟨a,k,b⟩=>⟨a,b▸below_drewN (Below.refl _ _) k⟩);have HUn:=qd (fun(W:World)=>plan_Units k0 m0 i0 W);have HPr:=qd (fun(W:World)=>plan_Probes W);obtain⟨z,hz⟩:∃z,z=unitsC k0:=⟨_,rfl⟩;have HBd:=qd (show badB k0 l m=(decide (z<(a:Int))||decide (194<(b:Int)))from by unfold badB;rw[hz,ha,hb]);rw[←hz]at HUn;rw[HBd.out];unfold repV;clear hu hp hlu hlp ha hb hz HBd;go_in;go_upto_region 1 with fail
 refine nameW (F:=fun v=>Blk v w.heap.size 23 #[.int .i64 k0,.int .i64 m0,.int .i64 i0]∧Blk v (w.heap.size+1) 39 #[.int .i64 c0,.int .i64 c1,.int .i64 c2,.int .i64 c3,.int .i64 c4,.int .i64 c5,.int .i64 c6,.int .i64 c7,.int .i64 n0,.int .i64 n1,.int .i64 n2,u,p,.int .i64 n3,.int .i64 n4,.int .i64 n5,.int .i64 n6,.int .i64 t0,.int .i64 t1,.int .i64 t2]∧Below w.heap.size w v) ⟨?_, ?_, ?_⟩ ?_
 ·exact(Blk.new w 23 _).alloc _
 ·have h:=Blk.new (w.alloc (.cells #[.int .i64 k0,.int .i64 m0,.int .i64 i0] 23)) 39 #[.int .i64 c0,.int .i64 c1,.int .i64 c2,.int .i64 c3,.int .i64 c4,.int .i64 c5,.int .i64 c6,.int .i64 c7,.int .i64 n0,.int .i64 n1,.int .i64 n2,u,p,.int .i64 n3,.int .i64 n4,.int .i64 n5,.int .i64 n6,.int .i64 t0,.int .i64 t1,.int .i64 t2];rw[World.size_alloc]at h;exact h
 ·exact((Below.refl _ _).alloc (Nat.le_refl _) _).alloc (by simp) _
 rintro w1 ⟨hC1,hR1,hbel1⟩;obtain⟨bc,hbc0⟩:∃bc,bc=w.heap.size:=⟨_,rfl⟩;obtain⟨br,hbr⟩:∃br,br=w.heap.size+1:=⟨_,rfl⟩;rw[←hbr]at hR1⊢;rw[←hbc0]at hC1⊢;clear hbr hbc0;by_cases hg:z<(a:Int)
 ·have hd:decide (z<(a:Int))=true:=decide_eq_true hg;refine rT (fun(w':World)=>w'.cell? ⟨bc,0,none⟩=some (.int .i64 k0)∧w'.cell? ⟨bc,1,none⟩=some (.int .i64 m0)∧w'.cell? ⟨bc,2,none⟩=some (.int .i64 i0)∧w'.cell? ⟨br,11,none⟩=some u∧w'.cell? ⟨br,12,none⟩=some p) [] ?_;have hHeld:(fun(w':World)=>w'.cell? ⟨bc,0,none⟩=some (.int .i64 k0)∧w'.cell? ⟨bc,1,none⟩=some (.int .i64 m0)∧w'.cell? ⟨bc,2,none⟩=some (.int .i64 i0)∧w'.cell? ⟨br,11,none⟩=some u∧w'.cell? ⟨br,12,none⟩=some p) (World.drew w1):=⟨hC1.cell 0,hC1.cell 1,hC1.cell 2,hR1.cell 11,hR1.cell 12⟩;refine vW 0 rfl ?_;refine vT 1 rfl ?_;refine vT 4 rfl ?_;refine nT 2 rfl fun K hK=> ?_;go_simp;refine(HRu.out _ hbel1.drew).mono ?_;rintro y w3 ⟨rb1,base1,F1,rfl,hpa1,hbc3⟩;have hC3:Blk w3 bc 23 #[.int .i64 k0,.int .i64 m0,.int .i64 i0]:=hC1.drew.below hbc3 hC1.drew.lt;have hR3:Blk w3 br 39 #[.int .i64 c0,.int .i64 c1,.int .i64 c2,.int .i64 c3,.int .i64 c4,.int .i64 c5,.int .i64 c6,.int .i64 c7,.int .i64 n0,.int .i64 n1,.int .i64 n2,u,p,.int .i64 n3,.int .i64 n4,.int .i64 n5,.int .i64 n6,.int .i64 t0,.int .i64 t1,.int .i64 t2]:=hR1.drew.below hbc3 hR1.drew.lt;have hbel3:Below w.heap.size w w3:=hbel1.drew.trans (hbc3.mono hbel1.size);go_wp2_with fail
  have hHeld:=show(fun(w':World)=>w'.cell? ⟨bc,0,none⟩=some (.int .i64 k0)∧w'.cell? ⟨bc,1,none⟩=some (.int .i64 m0)∧w'.cell? ⟨bc,2,none⟩=some (.int .i64 i0)∧w'.cell? ⟨br,11,none⟩=some u∧w'.cell? ⟨br,12,none⟩=some p) _ from⟨hC3.cell 0,hC3.cell 1,hC3.cell 2,hR3.cell 11,hR3.cell 12⟩;refine kO hK ?_;clear hK K;refine nT 3 rfl fun K hK=> ?_;go_simp;refine(HMu.out _ rb1 base1 F1 hpa1).mono ?_;rintro y w4 ⟨rfl,hbc4⟩;have hC4:Blk w4 bc 23 #[.int .i64 k0,.int .i64 m0,.int .i64 i0]:=hC3.below hbc4 hC3.lt;have hR4:Blk w4 br 39 #[.int .i64 c0,.int .i64 c1,.int .i64 c2,.int .i64 c3,.int .i64 c4,.int .i64 c5,.int .i64 c6,.int .i64 c7,.int .i64 n0,.int .i64 n1,.int .i64 n2,u,p,.int .i64 n3,.int .i64 n4,.int .i64 n5,.int .i64 n6,.int .i64 t0,.int .i64 t1,.int .i64 t2]:=hR3.below hbc4 hR3.lt;have hbel4:Below w.heap.size w w4:=hbel3.trans (hbc4.mono hbel3.size);go_wp2_with fail;have hHeld:=show(fun(w':World)=>w'.cell? ⟨bc,0,none⟩=some (.int .i64 k0)∧w'.cell? ⟨bc,1,none⟩=some (.int .i64 m0)∧w'.cell? ⟨bc,2,none⟩=some (.int .i64 i0)∧w'.cell? ⟨br,11,none⟩=some u∧w'.cell? ⟨br,12,none⟩=some p) _ from⟨hC4.cell 0,hC4.cell 1,hC4.cell 2,hR4.cell 11,hR4.cell 12⟩;refine kO hK ?_;clear hK K;refine nT 5 rfl fun K hK=> ?_;go_simp;refine(HUn.out _).mono ?_;rintro y w5 ⟨rfl,hbc5⟩;have hC5:Blk w5 bc 23 #[.int .i64 k0,.int .i64 m0,.int .i64 i0]:=hC4.below hbc5 hC4.lt
  have hR5:Blk w5 br 39 #[.int .i64 c0,.int .i64 c1,.int .i64 c2,.int .i64 c3,.int .i64 c4,.int .i64 c5,.int .i64 c6,.int .i64 c7,.int .i64 n0,.int .i64 n1,.int .i64 n2,u,p,.int .i64 n3,.int .i64 n4,.int .i64 n5,.int .i64 n6,.int .i64 t0,.int .i64 t1,.int .i64 t2]:=hR4.below hbc5 hR4.lt;have hbel5:Below w.heap.size w w5:=hbel4.trans (hbc5.mono hbel4.size);go_wp2_with fail;have hHeld:=show(fun(w':World)=>w'.cell? ⟨bc,0,none⟩=some (.int .i64 k0)∧w'.cell? ⟨bc,1,none⟩=some (.int .i64 m0)∧w'.cell? ⟨bc,2,none⟩=some (.int .i64 i0)∧w'.cell? ⟨br,11,none⟩=some u∧w'.cell? ⟨br,12,none⟩=some p) _ from⟨hC5.cell 0,hC5.cell 1,hC5.cell 2,hR5.cell 11,hR5.cell 12⟩;refine kO hK ?_;clear hK K;refine vW 6 rfl ?_;refine vW 7 rfl ?_;refine vU 8 rfl ?_;refine vU 9 rfl ?_;refine vU 10 rfl ?_;refine vU 11 rfl ?_;refine vU 12 rfl ?_;refine vU 13 rfl ?_;refine vW 14 rfl ?_;refine vW 15 rfl ?_;refine doneT (by kernel_rfl) ?_ _;go_wp2;go_ret;exact⟨by first|rfl|(rw[hd];rfl),hbel5⟩
 ·have hd:decide (z<(a:Int))=false:=decide_eq_false hg;refine rT (fun(w':World)=>w'.cell? ⟨bc,0,none⟩=some (.int .i64 k0)∧w'.cell? ⟨bc,1,none⟩=some (.int .i64 m0)∧w'.cell? ⟨bc,2,none⟩=some (.int .i64 i0)∧w'.cell? ⟨br,11,none⟩=some u∧w'.cell? ⟨br,12,none⟩=some p) [] ?_;have hHeld:(fun(w':World)=>w'.cell? ⟨bc,0,none⟩=some (.int .i64 k0)∧w'.cell? ⟨bc,1,none⟩=some (.int .i64 m0)∧w'.cell? ⟨bc,2,none⟩=some (.int .i64 i0)∧w'.cell? ⟨br,11,none⟩=some u∧w'.cell? ⟨br,12,none⟩=some p) (World.drew w1):=⟨hC1.cell 0,hC1.cell 1,hC1.cell 2,hR1.cell 11,hR1.cell 12⟩;refine vW 0 rfl ?_;refine vT 1 rfl ?_;refine vT 4 rfl ?_;refine nT 2 rfl fun K hK=> ?_;go_simp;refine(HRu.out _ hbel1.drew).mono ?_;rintro y w3 ⟨rb1,base1,F1,rfl,hpa1,hbc3⟩;have hC3:Blk w3 bc 23 #[.int .i64 k0,.int .i64 m0,.int .i64 i0]:=hC1.drew.below hbc3 hC1.drew.lt;have hR3:Blk w3 br 39 #[.int .i64 c0,.int .i64 c1,.int .i64 c2,.int .i64 c3,.int .i64 c4,.int .i64 c5,.int .i64 c6,.int .i64 c7,.int .i64 n0,.int .i64 n1,.int .i64 n2,u,p,.int .i64 n3,.int .i64 n4,.int .i64 n5,.int .i64 n6,.int .i64 t0,.int .i64 t1,.int .i64 t2]:=hR1.drew.below hbc3 hR1.drew.lt;have hbel3:Below w.heap.size w w3:=hbel1.drew.trans (hbc3.mono hbel1.size);go_wp2_with fail
  have hHeld:=show(fun(w':World)=>w'.cell? ⟨bc,0,none⟩=some (.int .i64 k0)∧w'.cell? ⟨bc,1,none⟩=some (.int .i64 m0)∧w'.cell? ⟨bc,2,none⟩=some (.int .i64 i0)∧w'.cell? ⟨br,11,none⟩=some u∧w'.cell? ⟨br,12,none⟩=some p) _ from⟨hC3.cell 0,hC3.cell 1,hC3.cell 2,hR3.cell 11,hR3.cell 12⟩;refine kO hK ?_;clear hK K;refine nT 3 rfl fun K hK=> ?_;go_simp;refine(HMu.out _ rb1 base1 F1 hpa1).mono ?_;rintro y w4 ⟨rfl,hbc4⟩;have hC4:Blk w4 bc 23 #[.int .i64 k0,.int .i64 m0,.int .i64 i0]:=hC3.below hbc4 hC3.lt;have hR4:Blk w4 br 39 #[.int .i64 c0,.int .i64 c1,.int .i64 c2,.int .i64 c3,.int .i64 c4,.int .i64 c5,.int .i64 c6,.int .i64 c7,.int .i64 n0,.int .i64 n1,.int .i64 n2,u,p,.int .i64 n3,.int .i64 n4,.int .i64 n5,.int .i64 n6,.int .i64 t0,.int .i64 t1,.int .i64 t2]:=hR3.below hbc4 hR3.lt;have hbel4:Below w.heap.size w w4:=hbel3.trans (hbc4.mono hbel3.size);go_wp2_with fail;have hHeld:=show(fun(w':World)=>w'.cell? ⟨bc,0,none⟩=some (.int .i64 k0)∧w'.cell? ⟨bc,1,none⟩=some (.int .i64 m0)∧w'.cell? ⟨bc,2,none⟩=some (.int .i64 i0)∧w'.cell? ⟨br,11,none⟩=some u∧w'.cell? ⟨br,12,none⟩=some p) _ from⟨hC4.cell 0,hC4.cell 1,hC4.cell 2,hR4.cell 11,hR4.cell 12⟩;refine kO hK ?_;clear hK K;refine nT 5 rfl fun K hK=> ?_;go_simp;refine(HUn.out _).mono ?_;rintro y w5 ⟨rfl,hbc5⟩;have hC5:Blk w5 bc 23 #[.int .i64 k0,.int .i64 m0,.int .i64 i0]:=hC4.below hbc5 hC4.lt
  have hR5:Blk w5 br 39 #[.int .i64 c0,.int .i64 c1,.int .i64 c2,.int .i64 c3,.int .i64 c4,.int .i64 c5,.int .i64 c6,.int .i64 c7,.int .i64 n0,.int .i64 n1,.int .i64 n2,u,p,.int .i64 n3,.int .i64 n4,.int .i64 n5,.int .i64 n6,.int .i64 t0,.int .i64 t1,.int .i64 t2]:=hR4.below hbc5 hR4.lt;have hbel5:Below w.heap.size w w5:=hbel4.trans (hbc5.mono hbel4.size);go_wp2_with fail;have hHeld:=show(fun(w':World)=>w'.cell? ⟨bc,0,none⟩=some (.int .i64 k0)∧w'.cell? ⟨bc,1,none⟩=some (.int .i64 m0)∧w'.cell? ⟨bc,2,none⟩=some (.int .i64 i0)∧w'.cell? ⟨br,11,none⟩=some u∧w'.cell? ⟨br,12,none⟩=some p) _ from⟨hC5.cell 0,hC5.cell 1,hC5.cell 2,hR5.cell 11,hR5.cell 12⟩;refine kO hK ?_;clear hK K;refine vW 6 rfl ?_;refine vW 7 rfl ?_;refine vW 8 rfl ?_;refine vT 9 rfl ?_;refine nT 10 rfl fun K hK=> ?_;go_simp;refine(HRp.out _ hbel5).mono ?_;rintro y w6 ⟨rb2,base2,F2,rfl,hpa2,hbc6⟩;have hC6:Blk w6 bc 23 #[.int .i64 k0,.int .i64 m0,.int .i64 i0]:=hC5.below hbc6 hC5.lt;have hR6:Blk w6 br 39 #[.int .i64 c0,.int .i64 c1,.int .i64 c2,.int .i64 c3,.int .i64 c4,.int .i64 c5,.int .i64 c6,.int .i64 c7,.int .i64 n0,.int .i64 n1,.int .i64 n2,u,p,.int .i64 n3,.int .i64 n4,.int .i64 n5,.int .i64 n6,.int .i64 t0,.int .i64 t1,.int .i64 t2]:=hR5.below hbc6 hR5.lt;have hbel6:Below w.heap.size w w6:=hbel5.trans (hbc6.mono hbel5.size);go_wp2_with fail
  have hHeld:=show(fun(w':World)=>w'.cell? ⟨bc,0,none⟩=some (.int .i64 k0)∧w'.cell? ⟨bc,1,none⟩=some (.int .i64 m0)∧w'.cell? ⟨bc,2,none⟩=some (.int .i64 i0)∧w'.cell? ⟨br,11,none⟩=some u∧w'.cell? ⟨br,12,none⟩=some p) _ from⟨hC6.cell 0,hC6.cell 1,hC6.cell 2,hR6.cell 11,hR6.cell 12⟩;refine kO hK ?_;clear hK K;refine nT 11 rfl fun K hK=> ?_;go_simp;refine(HMp.out _ rb2 base2 F2 hpa2).mono ?_;rintro y w7 ⟨rfl,hbc7⟩;have hC7:Blk w7 bc 23 #[.int .i64 k0,.int .i64 m0,.int .i64 i0]:=hC6.below hbc7 hC6.lt;have hR7:Blk w7 br 39 #[.int .i64 c0,.int .i64 c1,.int .i64 c2,.int .i64 c3,.int .i64 c4,.int .i64 c5,.int .i64 c6,.int .i64 c7,.int .i64 n0,.int .i64 n1,.int .i64 n2,u,p,.int .i64 n3,.int .i64 n4,.int .i64 n5,.int .i64 n6,.int .i64 t0,.int .i64 t1,.int .i64 t2]:=hR6.below hbc7 hR6.lt;have hbel7:Below w.heap.size w w7:=hbel6.trans (hbc7.mono hbel6.size);go_wp2_with fail;have hHeld:=show(fun(w':World)=>w'.cell? ⟨bc,0,none⟩=some (.int .i64 k0)∧w'.cell? ⟨bc,1,none⟩=some (.int .i64 m0)∧w'.cell? ⟨bc,2,none⟩=some (.int .i64 i0)∧w'.cell? ⟨br,11,none⟩=some u∧w'.cell? ⟨br,12,none⟩=some p) _ from⟨hC7.cell 0,hC7.cell 1,hC7.cell 2,hR7.cell 11,hR7.cell 12⟩;refine kO hK ?_;clear hK K;refine nT 12 rfl fun K hK=> ?_;go_simp;refine(HPr.out _).mono ?_;rintro y w8 ⟨rfl,rfl⟩;go_wp2_with fail
  have hHeld:=show(fun(w':World)=>w'.cell? ⟨bc,0,none⟩=some (.int .i64 k0)∧w'.cell? ⟨bc,1,none⟩=some (.int .i64 m0)∧w'.cell? ⟨bc,2,none⟩=some (.int .i64 i0)∧w'.cell? ⟨br,11,none⟩=some u∧w'.cell? ⟨br,12,none⟩=some p) _ from⟨hC7.cell 0,hC7.cell 1,hC7.cell 2,hR7.cell 11,hR7.cell 12⟩;refine kO hK ?_;clear hK K;refine vW 13 rfl ?_;refine vW 14 rfl ?_;refine vW 15 rfl ?_;refine doneT (by kernel_rfl) ?_ _;go_wp2;go_ret;exact⟨by first|rfl|(rw[hd];rfl),hbel7⟩
section
theorem wpList_appendM {P:Program}{w0:World}{ops:Array Oper}{rest:List Oper}{o:Oper}{a:Act}{Q:Exit→Act→World→Prop}(hgd:o.guard=none){s x:Operand}{t:TypeId}
  (ho:o.op= .call {callee:= .builtin .append,args:= #[s,x],argTypes:= #[t,t]}) {e:TypeId} {size bytes:Nat} (hT:SlTy P t e size bytes)
  {base:Nat} {v:Value} {n:Nat} {xs:List Value} (hown:w0.ownsRow base e size v n xs) (hs:a.eval s=v) {cs:Array Value} {t':TypeId} {c m:Nat}
  {g:Nat} (hx:a.eval x= .slice (some ⟨g,0,none⟩) m c) (hg0:g=w0.heap.size) (hl:cs.size=m*size) (h1':(cs.toList.all fun u=>u.oneCell')=true)
  (hn:n+m<33554432) (hbase:base≤w0.heap.size)
  (h:∀v' w',w'.ownsRow base e size v' (n+m) (xs++cs.toList)→Grew w0 base v w' v'→wpList P ops Q rest (a.put o.dst v') w'):
  wpList P ops Q (o::rest) a (w0.alloc (.cells cs t')):=by
 obtain⟨i,z,ht,hi,hz,hsize,hby,hzs,hsz,hb⟩:=hT;have h1:∀u∈cs.toList,u.oneCell'=true:=List.all_eq_true.1 h1';subst hg0
 refine wpList_append_own_at (w0.alloc (.cells cs t')) hgd s x t ho base e i z size bytes ht hi hz hsize hby hzs hsz v n xs hs (hown.alloc _) ⟨w0.heap.size,0,none⟩ m c cs.toList hx (by simp[hl]) ?_ h1
  (by simp only[maxLen];omega) ?_ (by simp;omega) ?_
 ·intro j u hj
  have hadd:(⟨w0.heap.size,0,none⟩:Addr).add j=⟨w0.heap.size,j,none⟩:=by unfold Addr.add;split<;>simp_all
  rw[hadd,(Blk.new w0 t' cs).cell];simpa using hj
 ·have:(n+m)*bytes≤33554432*4096:=Nat.mul_le_mul (by omega) hb;omega
 ·intro v' w' hown' hg _ hat;have hlt:=hown.lt;have hb0:Below base w0 (w0.alloc (.cells cs t')):=(Below.refl _ _).alloc hbase _;refine h v' w' hown' ⟨hb0.grown hg (by simp;omega) (fun k hk=>(hlt k hk).1),⟨hg.os,hg.tape,hg.output,by have:=hg.size;simp at this;omega,fun k hk hne=> ?_⟩, ?_⟩
  ·exact(hg.block k (by simp;omega) hne).trans (Below.heap_alloc w0 _ k hk)
  ·rcases hat with hat|hat
   ·exact .inl hat
   ·exact .inr ⟨_,hat,by simp⟩
section
variable {base rb n : Nat} {w w' : World} {F S : List Nat} {l : PL}
theorem PaR.lts (h:PaR base w rb F l n):∀q∈F,q<w.heap.size∧base≤q:=by
 obtain⟨v,h1,h2,rfl,h3,_⟩:=h;intro q hq;rcases List.mem_cons.1 hq with rfl|hq
 ·exact⟨h1.lt,h3⟩
 ·have:=h2.lt q (by simpa using hq);exact⟨this.2,this.1⟩
theorem PaR.mod (h:PaR base w rb F l n)(hm:Mod S w w')(hS:∀q∈S,q∉F):PaR base w' rb F l n:=by
 obtain⟨v,h1,h2,rfl,h3⟩:=h;refine⟨v,h1.mod hm (fun hq=>hS rb hq (by simp)),⟨h2.1, ?_⟩,rfl,h3⟩;rcases h2.2 with k|⟨g,cap,cur,rfl,k2,k3,k4⟩
 ·exact .inl k
 ·refine .inr ⟨g,cap,cur,rfl,k2, ?_,k4⟩;rw[hm.block g (Array.getElem?_eq_some_iff.1 k3).1 (fun hq=>hS g hq (by simp[Value.ownBlock]))];exact k3
end
def TwoR (B:Nat)(w:World)(bu bp bm:Nat)(l m:PL)(n k:Nat)(a b:Int):Prop:=
 ∃Fu Fp,PaR B w bu Fu l n∧PaR B w bp Fp m k∧(∀q∈Fu,q∉Fp)∧Blk w bm 34 #[.int .i64 a,.int .i64 b]∧bm∉Fu∧bm∉Fp∧B≤bm
section
variable {B bu bp bm n k : Nat} {w w' : World} {l m : PL} {a b : Int}
theorem TwoR.noteU (h:TwoR B w bu bp bm l m n k a b)(hB:B≤w.heap.size)(hl:l.length≤1000)(hn:n≤1000)(hu:∀p∈l,p.2≤1000)(x:Int):
  Calls Tryz.prog 5 #[.pointer (some ⟨bu,0,none⟩),.int .i64 x] w fun y w'=>y= .returned undef∧TwoR B w' bu bp bm (noteP l (clampP x)) m (n+1) k a b∧Below B w w':=by
 obtain⟨Fu,Fp,h1,h2,h3,h4,h5,h6,h7⟩:=h;refine(pa_Note h1 hl hn hu x).mono ?_;rintro y w' ⟨rfl,F',k1,k2,k3⟩;refine⟨rfl,⟨F',Fp,k1,h2.mod k3 (fun q hq=>h3 q hq),fun q hq hg=> ?_,h4.mod k3 h5,fun hq=> ?_,h6,h7⟩,k3.below (fun q hq=>(h1.lts q hq).2) hB⟩
 ·rcases k2 q hq with e|e
  ·exact h3 q e hg
  ·have:=(h2.lts q hg).1;omega
 ·rcases k2 bm hq with e|e
  ·exact h5 e
  ·have:=h4.lt;omega
theorem TwoR.noteP (h:TwoR B w bu bp bm l m n k a b)(hB:B≤w.heap.size)(hl:m.length≤1000)(hn:k≤1000)(hu:∀p∈m,p.2≤1000)(x:Int):
  Calls Tryz.prog 5 #[.pointer (some ⟨bp,0,none⟩),.int .i64 x] w fun y w'=>y= .returned undef∧TwoR B w' bu bp bm l (noteP m (clampP x)) n (k+1) a b∧Below B w w':=by
 obtain⟨Fu,Fp,h1,h2,h3,h4,h5,h6,h7⟩:=h;refine(pa_Note h2 hl hn hu x).mono ?_;rintro y w' ⟨rfl,F',k1,k2,k3⟩;refine⟨rfl,⟨Fu,F',h1.mod k3 (fun q hq hg=>h3 q hg hq),k1,fun q hq hg=> ?_,h4.mod k3 h6,h5,fun hq=> ?_,h7⟩,k3.below (fun q hq=>(h2.lts q hq).2) hB⟩
 ·rcases k2 q hg with e|e
  ·exact h3 q hq e
  ·have:=(h1.lts q hq).1;omega
 ·rcases k2 bm hq with e|e
  ·exact h6 e
  ·have:=h4.lt;omega
theorem TwoR.cells (h:TwoR B w bu bp bm l m n k a b):w.cell? ⟨bm,0,none⟩=some (.int .i64 a)∧w.cell? ⟨bm,1,none⟩=some (.int .i64 b)∧w.frozen? ⟨bm,0,none⟩=false∧w.frozen? ⟨bm,1,none⟩=false:=by
 obtain⟨_,_,_,_,_,h4,_⟩:=h;exact⟨h4.cell 0,h4.cell 1,h4.frozen 0,h4.frozen 1⟩
theorem TwoR.setU (h:TwoR B w bu bp bm l m n k a b)(x:Int):TwoR B (w.setCell ⟨bm,0,none⟩ (.int .i64 x)) bu bp bm l m n k x b∧Below B w (w.setCell ⟨bm,0,none⟩ (.int .i64 x)):=by
 obtain⟨Fu,Fp,h1,h2,h3,h4,h5,h6,h7⟩:=h;have hm:Mod [bm] w (w.setCell ⟨bm,0,none⟩ (.int .i64 x)):=(Mod.refl [bm] w).set_ (.inl (by simp)) 0 _;exact⟨⟨Fu,Fp,h1.mod hm (fun q hq hg=>by obtain rfl:=List.mem_singleton.1 hq;exact h5 hg),h2.mod hm (fun q hq hg=>by obtain rfl:=List.mem_singleton.1 hq;exact h6 hg),h3,h4.set_ 0 _,h5,h6,h7⟩,(Below.refl B w).setCell (p:=⟨bm,0,none⟩) h7 _⟩
theorem TwoR.setP (h:TwoR B w bu bp bm l m n k a b)(x:Int):TwoR B (w.setCell ⟨bm,1,none⟩ (.int .i64 x)) bu bp bm l m n k a x∧Below B w (w.setCell ⟨bm,1,none⟩ (.int .i64 x)):=by
 obtain⟨Fu,Fp,h1,h2,h3,h4,h5,h6,h7⟩:=h;have hm:Mod [bm] w (w.setCell ⟨bm,1,none⟩ (.int .i64 x)):=(Mod.refl [bm] w).set_ (.inl (by simp)) 1 _;exact⟨⟨Fu,Fp,h1.mod hm (fun q hq hg=>by obtain rfl:=List.mem_singleton.1 hq;exact h5 hg),h2.mod hm (fun q hq hg=>by obtain rfl:=List.mem_singleton.1 hq;exact h6 hg),h3,h4.set_ 1 _,h5,h6,h7⟩,(Below.refl B w).setCell (p:=⟨bm,1,none⟩) h7 _⟩
theorem TwoR.below (h:TwoR B w bu bp bm l m n k a b)(hb:Below w.heap.size w w'):TwoR B w' bu bp bm l m n k a b:=by
 obtain⟨Fu,Fp,h1,h2,h3,h4,h5,h6,h7⟩:=h;exact⟨Fu,Fp,h1.below hb,h2.below hb,h3,h4.below hb h4.lt,h5,h6,h7⟩
end
end
end Go.Proofs.YtfbljmcjadfkoaaGreatDoor
