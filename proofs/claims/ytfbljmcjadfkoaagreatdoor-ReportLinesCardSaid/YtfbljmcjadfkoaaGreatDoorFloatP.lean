/- A record's Note and Most by their contracts. No statement of the claim. -/
import Derived.Test.YtfbljmcjadfkoaaGreatDoorPaP
import Derived.Test.YtfbljmcjadfkoaaGreatDoorSqM
import Derived.Test.YtfbljmcjadfkoaaGreatDoorSq
import Derived.Deep.CutRange
import Ieee.Arith
namespace Go.Proofs.YtfbljmcjadfkoaaGreatDoor
set_option maxRecDepth 100000
set_option maxHeartbeats 4000000
open Go.RowKit Go.Shelf AmC AmL Ieee
variable {F : List Nat}
def PaR (base:Nat)(w:World)(rb:Nat)(F:List Nat)(l:PL)(n:Nat):Prop:=
 ∃v,Blk w rb 33 #[v,.int .i64 (n:Int)]∧w.ownsRow base 87 2 v l.length (l.flatMap rowC)∧F=rb::v.ownBlock.toList∧base≤rb∧AscP l
def PaTo (base:Nat)(w w':World)(rb:Nat)(F:List Nat)(l:PL)(n:Nat):Prop:=
 ∃F',PaR base w' rb F' l n∧(∀q∈F',q∈F∨w.heap.size≤q)∧Mod F w w'
theorem own_far0 {w:World}{base g n c sz:Nat}{t:TypeId}{xs:List Value}(h:w.ownsRow base t sz (.slice (some ⟨g,0,none⟩) n c) n xs){rb i:Nat}(hg:g≠rb)(u:Value):(w.setCell ⟨rb,i,none⟩ u).ownsRow base t sz (.slice (some ⟨g,0,none⟩) n c) n xs:=by
 refine⟨h.1, ?_⟩;rcases h.2 with k|⟨g',cap,cur,hv,k2,k3,k4⟩
 ·exact .inl k
 ·refine .inr ⟨g',cap,cur,hv,k2, ?_,k4⟩
  injection hv with hv _ _
  injection hv with hv
  injection hv with hv _ _
  subst hv;exact(Below.heap_setCell w ⟨rb,i,none⟩ u g hg).trans k3
section
variable {base rb n g c lo k : Nat} {w : World} {l : PL}
theorem pa_bump (hB:Blk w rb 33 #[.slice (some ⟨g,0,none⟩) l.length c,.int .i64 (n:Int)])(ho:w.ownsRow base 87 2 (.slice (some ⟨g,0,none⟩) l.length c) l.length (l.flatMap rowC))(hlo:lo<l.length)(hk:(l[lo]?).map Prod.fst=some k)(x:Nat):
  Blk (w.setCell ⟨g,lo*2+1,none⟩ (.int .i64 (x:Int))) rb 33 #[.slice (some ⟨g,0,none⟩) l.length c,.int .i64 (n:Int)]∧(w.setCell ⟨g,lo*2+1,none⟩ (.int .i64 (x:Int))).ownsRow base 87 2 (.slice (some ⟨g,0,none⟩) l.length c) l.length ((l.set lo (k,x)).flatMap rowC)∧Mod [g] w (w.setCell ⟨g,lo*2+1,none⟩ (.int .i64 (x:Int))):=by
 have hty:=own_typ ho hB (by decide);have hne:rb≠g:=fun e=>hty (by simp[Value.ownBlock,e]);have h1:=own_cellSet (i:=lo*2+1) ho (.int .i64 (x:Int));rw[rowC_set hlo k x hk]at h1;exact⟨hB.far (p:=⟨g,lo*2+1,none⟩) hne _,h1.1,h1.2⟩
theorem pa_many (hB:Blk w rb 33 #[.slice (some ⟨g,0,none⟩) l.length c,.int .i64 (n:Int)])(ho:w.ownsRow base 87 2 (.slice (some ⟨g,0,none⟩) l.length c) l.length (l.flatMap rowC)):
  Blk (w.setCell ⟨rb,1,none⟩ (.int .i64 ((n+1:Nat):Int))) rb 33 #[.slice (some ⟨g,0,none⟩) l.length c,.int .i64 ((n+1:Nat):Int)]∧(w.setCell ⟨rb,1,none⟩ (.int .i64 ((n+1:Nat):Int))).ownsRow base 87 2 (.slice (some ⟨g,0,none⟩) l.length c) l.length (l.flatMap rowC)∧Mod [rb] w (w.setCell ⟨rb,1,none⟩ (.int .i64 ((n+1:Nat):Int))):=by
 have hty:=own_typ ho hB (by decide);have hne:g≠rb:=fun e=>hty (by simp[Value.ownBlock,e]);exact⟨hB.set_ 1 _,own_far0 ho hne _,(Mod.refl [rb] w).set_ (.inl (by simp)) 1 _⟩
end
theorem noteP_found {l:PL}{c u:Nat}(hi:isP l c=true)(hg:getP l c=some u):noteP l c=l.set (lowP l c) (c,u+1):=by
 unfold noteP putP;rw[if_pos hi,hg];rfl
theorem noteP_new {l:PL}{c:Nat}(ha:AscP l)(hi:isP l c=false):noteP l c=(l.take (lowP l c)++(c,0)::l.drop (lowP l c)).set (lowP l c) (c,1):=by
 have hl:=lowP_le l c;unfold noteP putP;rw[if_neg (by rw[hi];simp),isP_false ha hi,List.set_append_right _ _ (by rw[List.length_take];omega),List.length_take,show lowP l c-min (lowP l c) l.length=0 by omega];rfl
theorem pa_add {base rb n:Nat}{w:World}{l:PL}(h:PaR base w rb F l n)(hl:l.length≤1000)(hn:n≤1000)(hu:∀p∈l,p.2≤1000)(c:Nat):
  Calls Tryz.prog 13 #[.pointer (some ⟨rb,0,none⟩),.int .i64 (c:Int),.int .i64 1] w fun y w'=>y= .returned undef∧PaTo base w w' rb F (noteP l c) (n+1):=by
 obtain⟨v,hB,ho,rfl,hb,ha⟩:=h;obtain⟨A,cc,rfl⟩:=own_form ho;have HF:=qd (pa_search ho ha (by omega) c);have hasc:=note_asc ha c;have hty:=own_typ ho hB (by decide);have hlow:=lowP_le l c;have c0:=hB.cell 0;simp only[gl]at c0
 have hwn:IntKind.i64.wrap ((n:Int)+1)=((n+1:Nat):Int):=by rw[IntKind.wrap_i64];omega
 cases hi:isP l c with
 |true=>
  obtain⟨u,hu',hg⟩:=(isP_iff ha).1 hi;have hul:u≤1000:=hu (c,u) (List.mem_of_getElem? hu');have hpp:=noteP_found hi hg;rw[hpp]at hasc⊢;rw[hi]at HF;obtain⟨lo,hlo⟩:∃lo,lo=lowP l c:=⟨_,rfl⟩;rw[←hlo]at HF hu' hasc⊢;have hll:lo<l.length:=(List.getElem?_eq_some_iff.1 hu').1;obtain⟨g,rfl,hgl,hbg,hcl,hfr⟩:=own_at0 ho (by omega)
  have hl':(lo:Int)<(l.length:Int):=by omega
  have hl0:(0:Int)≤(lo:Int):=by omega
  have hwu:IntKind.i64.wrap ((u:Int)+1)=((u+1:Nat):Int):=by rw[IntKind.wrap_i64];omega
  have HX:=qd (And.intro ho (And.intro hB (And.intro hb (And.intro hasc hu'))));clear hi hg hlo ho hB hty hpp hasc ha hlow hu hul hfr;go_in;go_wp2_with fail;refine HF.out.mono ?_;rintro y w1 ⟨rfl,hb1⟩;have ho1:=own_below HX.out.1 hb1 (Nat.le_refl _);have hB1:=HX.out.2.1.below hb1 HX.out.2.1.lt;have c0:=hB1.cell 0;simp only[gl]at c0;obtain⟨g2,off,hA2,hgl2,hc⟩:=(Reads.of_own ho1).2 (by omega)
  injection hA2 with hA2
  injection hA2 with hA2 hA3 _
  subst hA2 hA3
  have r1:w1.cell? ⟨g,lo*2+1,none⟩=some (.int .i64 (u:Int)):=by have:=hc (lo*2+1) _ (rowC_at HX.out.2.2.2.2 (by omega));rw[Nat.zero_add]at this;exact this
  have hfz:w1.frozen? ⟨g,lo*2+1,none⟩=false:=by
   obtain⟨g3,h3,_,_,_,h4⟩:=own_at0 ho1 (by omega)
   injection h3 with h3
   injection h3 with h3 _ _
   subst h3;exact h4 _
  have hm1:Mod (rb::(Value.slice (some ⟨g,0,none⟩) l.length cc).ownBlock.toList) w w1:=Mod.of_below hb1 _;have hbp:=pa_bump hB1 ho1 hll (k:=c) (by rw[HX.out.2.2.2.2];rfl) (u+1);have HW:=qd (And.intro hbp.1 (And.intro hbp.2.1 (hm1.then (hbp.2.2.more (fun q hq=>by simp at hq;simp[Value.ownBlock,hq])))));clear hb1 ho1 hB1 hc hm1 hbp;go_upto_region 4 with fail;refine nameW (F:=fun W=>Blk W rb 33 #[.slice (some ⟨g,0,none⟩) l.length cc,.int .i64 (n:Int)]∧W.ownsRow base 87 2 (.slice (some ⟨g,0,none⟩) l.length cc) l.length ((l.set lo (c,u+1)).flatMap rowC)∧Mod (rb::(Value.slice (some ⟨g,0,none⟩) l.length cc).ownBlock.toList) w W) HW.out ?_;rintro w2 ⟨hB2,ho2,hm2⟩;have hlen:(l.set lo (c,u+1)).length=l.length:=List.length_set;have hmy:=pa_many (l:=l.set lo (c,u+1)) (by rw[hlen];exact hB2) (by rw[hlen];exact ho2);have c1:=hB2.cell 1;have f1:=hB2.frozen 1;simp only[gl]at c1
  have HY:=qd (show PaTo base w (w2.setCell ⟨rb,1,none⟩ (.int .i64 ((n+1:Nat):Int))) rb (rb::(Value.slice (some ⟨g,0,none⟩) l.length cc).ownBlock.toList) (l.set lo (c,u+1)) (n+1)from
   ⟨_,⟨_,hmy.1,hmy.2.1,rfl,HX.out.2.2.1,HX.out.2.2.2.1⟩,fun q hq=> .inl (by rw[hlen]at hq;exact hq),hm2.then (hmy.2.2.more (fun q hq=>by simp at hq;simp[hq]))⟩)
  clear hB2 ho2 hm2 hmy HW HX;go_wp2;go_end0;exact⟨rfl,HY.out⟩
 |false=>
  have hpp:=noteP_new ha hi;rw[hpp]at hasc⊢;rw[hi]at HF;obtain⟨lo,hlo⟩:∃lo,lo=lowP l c:=⟨_,rfl⟩;rw[←hlo]at HF hasc hlow⊢;obtain⟨l2,hl2⟩:∃l2,l2=l.take lo++(c,0)::l.drop lo:=⟨_,rfl⟩
  have hlen2:l2.length=l.length+1:=by rw[hl2,List.length_append,List.length_cons,List.length_take,List.length_drop];omega
  have hat2:l2[lo]?=some (c,0):=by rw[hl2,List.getElem?_append_right (by rw[List.length_take];omega),List.length_take,show lo-min lo l.length=0 by omega];rfl
  rw[←hl2]at hasc⊢
  have hl':(lo:Int)<((l.length+1:Nat):Int):=by omega
  have hl'':(lo:Int)<(l.length:Int)+1:=by omega
  have hl0:(0:Int)≤(lo:Int):=by omega
  have HX:=qd (And.intro ho (And.intro hB (And.intro hty (And.intro hb (And.intro hasc (And.intro hlow (And.intro hl2 (And.intro hlen2 hat2))))))));clear hi hlo ho hB hty hpp hasc hlow ha hl2 hlen2 hu hat2;go_in;go_wp2_with fail;refine HF.out.mono ?_;rintro y w1 ⟨rfl,hb1⟩;have ho1:=own_below HX.out.1 hb1 (Nat.le_refl _);have hB1:=HX.out.2.1.below hb1 HX.out.2.1.lt;have c0:=hB1.cell 0;simp only[gl]at c0
  have hbs:base≤w1.heap.size:=by have:=HX.out.2.2.2.1;have:=hB1.lt;omega
  have hI:=fun(tv:TypeId)=>pa_insert (lo:=lo) (k:=c) (v:=0) (w:=w1.alloc (.cells #[.int .i64 (c:Int),.int .i64 0] tv)) (vb:=w1.heap.size) (ho1.alloc _) (Blk.new w1 tv _) (fun g hg e=>by have:=(ho1.lt g hg).2;omega) HX.out.2.2.2.2.2.1 (by omega) (by simp;omega);rw[←HX.out.2.2.2.2.2.2.1]at hI;have HI:=qd hI;have HB1:=qd (And.intro hb1 (And.intro ho1 hB1));clear hb1 ho1 hB1 hI;go_wp2_with fail;refine(HI.out _).mono ?_;rintro y w3 ⟨v',rfl,ho3,hm3,hs3⟩;obtain⟨A',c',rfl⟩:=own_form ho3;have hlt:rb<w1.heap.size:=HB1.out.2.2.lt;have hB3:Blk w3 rb 33 #[.slice A l.length cc,.int .i64 (n:Int)]:=(HB1.out.2.2.alloc _).mod hm3 HX.out.2.2.1;have f0:=hB3.frozen 0;have c0:=hB3.cell 0;simp only[gl]at c0
  have hsz:w1.heap.size+1≤w3.heap.size:=by have:=hm3.size;simpa using this
  have hne3:rb∉(Value.slice A' (l.length+1) c').ownBlock.toList:=fun hq=>(hs3 rb hq).elim HX.out.2.2.1 (fun k=>by simp at k;omega);obtain⟨g,rfl,hgl,hbg,hcl,hfr⟩:=own_at0 ho3 (by omega);have hgr:g≠rb:=fun e=>hne3 (by simp[Value.ownBlock,e]);have hm0:Mod (rb::(Value.slice A l.length cc).ownBlock.toList) w w3:=((Mod.of_below HB1.out.1 _).alloc _).then (hm3.more (fun q hq=>List.mem_cons_of_mem _ hq))
  have hgF:g∈(rb::(Value.slice A l.length cc).ownBlock.toList)∨w.heap.size≤g:=by
   rcases hs3 g (by simp[Value.ownBlock])with k|k
   ·exact .inl (List.mem_cons_of_mem _ k)
   ·have h1:=HB1.out.1.size;simp at k;exact .inr (by omega)
  have HW:=qd (And.intro (show Blk (w3.setCell ⟨rb,0,none⟩ (.slice (some ⟨g,0,none⟩) (l.length+1) c')) rb 33 #[.slice (some ⟨g,0,none⟩) (l.length+1) c',.int .i64 (n:Int)]from hB3.set_ 0 _) (And.intro (own_far0 (i:=0) ho3 hgr (.slice (some ⟨g,0,none⟩) (l.length+1) c')) (hm0.then ((Mod.refl _ _).sl 0 (.slice (some ⟨g,0,none⟩) (l.length+1) c')))));clear hB3 ho3 hm3 hs3 hne3 hfr HI;go_upto_region 3 with fail;refine nameW (F:=fun W=>Blk W rb 33 #[.slice (some ⟨g,0,none⟩) (l.length+1) c',.int .i64 (n:Int)]∧W.ownsRow base 87 2 (.slice (some ⟨g,0,none⟩) (l.length+1) c') (l.length+1) (l2.flatMap rowC)∧Mod (rb::(Value.slice A l.length cc).ownBlock.toList) w W) HW.out ?_;rintro w4 ⟨hB4,ho4,hm4⟩;have hlen2:=HX.out.2.2.2.2.2.2.2.1;have c0:=hB4.cell 0;simp only[gl]at c0
  have hfz:w4.frozen? ⟨g,lo*2+1,none⟩=false:=by
   obtain⟨g3,h3,_,_,_,h4⟩:=own_at0 ho4 (by omega)
   injection h3 with h3
   injection h3 with h3 _ _
   subst h3;exact h4 _
  have ho4':w4.ownsRow base 87 2 (.slice (some ⟨g,0,none⟩) l2.length c') l2.length (l2.flatMap rowC):=by rw[hlen2];exact ho4
  have hB4':Blk w4 rb 33 #[.slice (some ⟨g,0,none⟩) l2.length c',.int .i64 (n:Int)]:=by rw[hlen2];exact hB4
  obtain⟨g2,off,hA2,hgl2,hc⟩:=(Reads.of_own ho4').2 (by omega)
  injection hA2 with hA2
  injection hA2 with hA2 hA3 _
  subst hA2 hA3
  have r1:w4.cell? ⟨g,lo*2+1,none⟩=some (.int .i64 ((0:Nat):Int)):=by have:=hc (lo*2+1) _ (rowC_at HX.out.2.2.2.2.2.2.2.2 (by omega));rw[Nat.zero_add]at this;exact this
  have hbp:=pa_bump hB4' ho4' (lo:=lo) (by omega) (k:=c) (by rw[HX.out.2.2.2.2.2.2.2.2];rfl) 1
  have hfin:∀W,Blk W rb 33 #[.slice (some ⟨g,0,none⟩) l2.length c',.int .i64 (n:Int)]∧W.ownsRow base 87 2 (.slice (some ⟨g,0,none⟩) l2.length c') l2.length ((l2.set lo (c,1)).flatMap rowC)∧Mod (rb::(Value.slice A l.length cc).ownBlock.toList) w W→PaTo base w (W.setCell ⟨rb,1,none⟩ (.int .i64 ((n+1:Nat):Int))) rb (rb::(Value.slice A l.length cc).ownBlock.toList) (l2.set lo (c,1)) (n+1):=by
   intro W ⟨k1,k2,k3⟩;have hlen:(l2.set lo (c,1)).length=l2.length:=List.length_set;have hmy:=pa_many (l:=l2.set lo (c,1)) (by rw[hlen];exact k1) (by rw[hlen];exact k2);refine⟨_,⟨_,hmy.1,hmy.2.1,rfl,HX.out.2.2.2.1,HX.out.2.2.2.2.1⟩,fun q hq=> ?_,k3.then (hmy.2.2.more (fun q hq=>by simp at hq;simp[hq]))⟩;rcases List.mem_cons.1 hq with rfl|hq
   ·exact .inl (by simp)
   ·have:q=g:=by simpa[Value.ownBlock,eq_comm]using hq
    rw[this];exact hgF
  have HFin:=qd hfin
  have hmg:Mod (rb::(Value.slice A l.length cc).ownBlock.toList) w (w4.setCell ⟨g,lo*2+1,none⟩ (.int .i64 ((1:Nat):Int))):=hm4.trans hbp.2.2 (fun q hq _=>hq) (fun q hq hlt=>by
   have e:q=g:=by simpa using hq
   rw[e]at hlt⊢;rcases hgF with k|k
   ·exact k
   ·omega)
  have HW2:=qd (And.intro hbp.1 (And.intro hbp.2.1 hmg));rw[hlen2]at HW2 HFin;clear hB4 ho4 hm4 hB4' ho4' hc hbp hmg hfin HW;go_upto_region 4 with fail;refine nameW (F:=fun W=>Blk W rb 33 #[.slice (some ⟨g,0,none⟩) (l.length+1) c',.int .i64 (n:Int)]∧W.ownsRow base 87 2 (.slice (some ⟨g,0,none⟩) (l.length+1) c') (l.length+1) ((l2.set lo (c,1)).flatMap rowC)∧Mod (rb::(Value.slice A l.length cc).ownBlock.toList) w W) HW2.out ?_;rintro w5 hw5;have HY:=qd (HFin.out w5 hw5);have c1:=hw5.1.cell 1;have f1:=hw5.1.frozen 1;simp only[gl]at c1;clear hw5 HFin HW2;go_wp2;go_end0;exact⟨rfl,HY.out⟩
theorem pa_Note {base rb n:Nat}{w:World}{l:PL}(h:PaR base w rb F l n)(hl:l.length≤1000)(hn:n≤1000)(hu:∀p∈l,p.2≤1000)(x:Int):
  Calls Tryz.prog 5 #[.pointer (some ⟨rb,0,none⟩),.int .i64 x] w fun y w'=>y= .returned undef∧PaTo base w w' rb F (noteP l (clampP x)) (n+1):=by
 have HA:=qd (pa_add h hl hn hu (clampP x))
 have hc:min (max x 0) 1099511627776=((clampP x:Nat):Int):=by unfold clampP;omega
 clear h;go_in;go_wp2_with fail
 try simp only[hc]
 refine HA.out.mono ?_;rintro y w1 ⟨rfl,hp⟩;have HP:=qd hp;clear hp HA;go_wp2;go_end0;exact⟨rfl,HP.out⟩
theorem pa_Most {base rb n:Nat}{w:World}{l:PL}(h:PaR base w rb F l n)(hl:l.length≤1000):
  Calls Tryz.prog 16 #[.pointer (some ⟨rb,0,none⟩)] w fun y w'=>y= .returned (.int .i64 (mostP l:Int))∧∃k,w'=w.drewN k:=by
 obtain⟨v,hB,ho,rfl,hb,ha⟩:=h;obtain⟨A,cc,rfl⟩:=own_form ho;have c0:=hB.cell 0;simp only[gl]at c0;by_cases h0:l.length=0
 ·have hm:mostP l=0:=by rw[List.length_eq_zero_iff.1 h0];rfl
  rw[h0]at c0;rw[hm];clear hB ho;go_in;go_wp2;go_ret;exact⟨rfl,0,rfl⟩
 ·have h0':¬(l.length:Int)=0:=by omega
  have h0b:((l.length:Int)==0)=false:=by simpa using h0'
  obtain⟨m,hm⟩:∃m,m=l.length-1:=⟨_,rfl⟩
  have hwm:IntKind.i64.wrap ((l.length:Int)-1)=(m:Int):=by rw[IntKind.wrap_i64];omega
  have hmz:(l.length:Int)-1=(m:Int):=by omega
  have hwm2:IntKind.i64.wrap (m:Int)=(m:Int):=by rw[IntKind.wrap_i64];omega
  have hm0:(0:Int)≤(m:Int):=by omega
  have hm1:(m:Int)<(l.length:Int):=by omega
  obtain⟨p,hp⟩:∃p,l[m]?=some p:=⟨_,List.getElem?_eq_getElem (by omega)⟩
  have hmo:mostP l=p.1:=by unfold mostP;rw[List.getLast?_eq_getElem?,←hm,hp];rfl
  rw[hmo];obtain⟨g,off,hA,hgl,hc⟩:=(Reads.of_own ho).2 (by omega);have r0:w.cell? ⟨g,off+m*2,none⟩=some (.int .i64 (p.1:Int)):=hc (m*2+0) _ (rowC_at hp (by omega));subst hA;clear hB ho hc hp hmo hm;go_in;go_wp2;go_quiet (fail);go_wp2;go_ret;exact⟨rfl,_,rfl⟩
end Go.Proofs.YtfbljmcjadfkoaaGreatDoor

/-! A record's Sum and Mean by their contracts. No statement of the claim. -/
namespace Go.Proofs.YtfbljmcjadfkoaaGreatDoor
set_option maxRecDepth 100000
set_option maxHeartbeats 4000000
open Go.RowKit Go.Shelf AmC AmL Ieee
variable {p : Nat × Nat} {r : PL} {s : Nat}
theorem sumP_stop (h:0<p.1∧(1099511627776-s)/p.1<p.2):sumP (p::r) s=1099511627776:=by
 rw[sumP,if_pos h]
theorem sumP_next (h:¬(0<p.1∧(1099511627776-s)/p.1<p.2)):sumP (p::r) s=sumP r (s+p.1*p.2):=by
 rw[sumP,if_neg h]
theorem sum_room (hs:s≤1099511627776)(h:¬(0<p.1∧(1099511627776-s)/p.1<p.2)):s+p.1*p.2≤1099511627776:=by
 by_cases h0:0<p.1
 ·have h1:p.2≤(1099511627776-s)/p.1:=Nat.le_of_not_lt fun hlt=>h ⟨h0,hlt⟩;have h2:=Nat.mul_le_mul_left p.1 h1;have h3:=Nat.mul_div_le (1099511627776-s) p.1;omega
 ·have:p.1=0:=by omega
  rw[this];omega
theorem pa_Sum {base rb n:Nat}{F:List Nat}{w:World}{l:PL}(h:PaR base w rb F l n)(hl:l.length≤1000)(hp:∀p∈l,p.1≤1099511627776∧p.2≤1000):
  Calls Tryz.prog 17 #[.pointer (some ⟨rb,0,none⟩)] w fun y w'=>y= .returned (.int .i64 (sumP l 0:Int))∧Below w.heap.size w w':=by
 obtain⟨v,hB,ho,rfl,hb,ha⟩:=h;obtain⟨A,cc,rfl⟩:=own_form ho;have c0:=hB.cell 0;simp only[gl]at c0;have HL:=qd (Reads.of_own ho);have HP:=qd hp;have HB:=qd (Below.refl w.heap.size w);obtain⟨r,hr⟩:∃r,r=sumP l 0:=⟨_,rfl⟩;have HR:=qd (show r=sumP (l.drop 0) 0 from by rw[hr];rfl);rw[←hr];clear hB ho hp hr ha hb;go_in;go_wp2;go_loopw [3,11] (fun v3 v11 wr=>∃i s:Nat,i≤l.length∧s≤1099511627776∧v11= .int .i64 (i:Int)∧v3= .int .i64 (s:Int)∧Hid (r=sumP (l.drop i) s)∧Hid (Below w.heap.size w wr)) (fun _ v11 _=>l.length-(intOf v11).toNat)
 case atStart=>exact⟨0,0,by omega,by omega,rfl,rfl,HR,HB⟩
 case round=>
  clear HB HR;obtain⟨i,s,hi,hs,rfl,rfl,HR,HB⟩:=hrel;by_cases hlt:i<l.length
  ·have hlt':(i:Int)<(l.length:Int):=by omega
   have hi0:(0:Int)≤(i:Int):=by omega
   have hwi:IntKind.i64.wrap ((i:Int)+1)=((i+1:Nat):Int):=by rw[IntKind.wrap_i64];omega
   obtain⟨p,hpi⟩:∃p,l[i]?=some p:=⟨_,List.getElem?_eq_getElem hlt⟩;have hpb:=HP.out p (List.mem_of_getElem? hpi);obtain⟨g,off,hA,hgl,hc⟩:=HL.out.2 (by omega);have r0:wr.cell? ⟨g,off+i*2,none⟩=some (.int .i64 (p.1:Int)):=cell_in HB.out (hc (i*2+0) _ (rowC_at hpi (by omega)));have r1:wr.cell? ⟨g,off+i*2+1,none⟩=some (.int .i64 (p.2:Int)):=cell_in HB.out (hc (i*2+1) _ (rowC_at hpi (by omega)))
   have hdr:l.drop i=p::l.drop (i+1):=by
    rw[List.drop_eq_getElem_cons hlt];congr 1;rw[List.getElem?_eq_getElem hlt]at hpi;exact Option.some.inj hpi
   have HD:=qd (show r=sumP (p::l.drop (i+1)) s from by rw[HR.out,hdr]);subst hA;clear hc hpi hdr;go_upto_region 5 with fail;refine nameW (F:=fun v=>Blk v wr.heap.size 87 #[.int .i64 (p.1:Int),.int .i64 (p.2:Int)]∧Below wr.heap.size wr v) ⟨Blk.new wr 87 #[.int .i64 (p.1:Int),.int .i64 (p.2:Int)],(Below.refl wr.heap.size wr).alloc (Nat.le_refl _) _⟩ ?_;rintro w6 ⟨hB6,hb6⟩;have HB6:=qd (HB.out.trans (hb6.mono HB.out.size));obtain⟨bx,hbx⟩:∃bx,bx=wr.heap.size:=⟨_,rfl⟩;rw[←hbx]at hB6⊢;obtain⟨x0,x1⟩:=hB6.c2;have HC6:=qd hB6;have HM:=qd (show l.length-(i+1)<l.length-i by omega);clear hB6 hb6 hbx HB r0 r1 HR;obtain⟨bd,hbd⟩:∃bd:Bool,bd=decide (0<p.1∧(1099511627776-s)/p.1<p.2):=⟨_,rfl⟩
   go_cut [27]from 15 to 27 (fun v27 wx=>v27= .bool bd∧Hid (Below w6.heap.size w6 wx))
   case first=>
    by_cases h0:0<p.1
    ·have hg0:decide ((0:Int)<(p.1:Int))=true:=decide_eq_true (by omega);have hg1:decide (0<p.1)=true:=decide_eq_true h0
     have hq0:¬(p.1:Int)=0:=by omega
     have hqb:((p.1:Int)==0)=false:=by simpa using hq0
     obtain⟨d,hd⟩:∃d,d=1099511627776-s:=⟨_,rfl⟩
     have hdz:(1099511627776:Int)-(s:Int)=(d:Int):=by omega
     have hwd:IntKind.i64.wrap ((1099511627776:Int)-(s:Int))=(d:Int):=by rw[IntKind.wrap_i64];omega
     have hwd2:IntKind.i64.wrap (d:Int)=(d:Int):=by rw[IntKind.wrap_i64];omega
     obtain⟨q,hq⟩:∃q,q=d/p.1:=⟨_,rfl⟩
     have hdv:Int.tdiv (d:Int) (p.1:Int)=(q:Int):=by rw[hq];rfl
     have hdl:q≤d:=by rw[hq];exact Nat.div_le_self d p.1
     have hwq:IntKind.i64.wrap (q:Int)=(q:Int):=by rw[IntKind.wrap_i64];omega
     have HBd:=qd (show bd=decide (q<p.2)from by rw[hbd,hq,hd];simp[h0])
     have hdc:decide ((q:Int)<(p.2:Int))=decide (q<p.2):=by simp
     clear h0 hbd hd hq hdl;go_wp2;go_quiet (fail);go_wp2;go_meet
     case rel=>exact⟨by rw[HBd.out];try rfl;try simp,qd (by first|exact Below.refl _ _|exact below_drewN (Below.refl _ _) _)⟩
    ·have hg0:decide ((0:Int)<(p.1:Int))=false:=decide_eq_false (by omega);have hg1:decide (0<p.1)=false:=decide_eq_false h0;have HBd:=qd (show bd=false from by rw[hbd];simp[h0]);clear h0 hbd;go_wp2;go_quiet (fail);go_wp2;go_meet
     case rel=>exact⟨by rw[HBd.out],qd (by first|exact Below.refl _ _|exact below_drewN (Below.refl _ _) _)⟩
   case rest=>
    obtain⟨rfl,HBz⟩:=hcut;have hz:=HC6.out.below HBz.out HC6.out.lt;obtain⟨x0,x1⟩:=hz.c2;have HBc:=qd (HB6.out.trans (HBz.out.mono HB6.out.size));clear hz HC6 HB6
    cases hbv:bd with
    |true=>
     have HE:=qd (show r=1099511627776 from by rw[HD.out,sumP_stop (of_decide_eq_true (hbd▸hbv))]);clear hbv hbd HBz;go_wp2;go_ret;exact⟨by rw[HE.out];rfl,HBc.out⟩
    |false=>
     have hno:=of_decide_eq_false (hbd▸hbv);have hrm:=sum_room hs hno;have HE:=qd (show r=sumP (l.drop (i+1)) (s+p.1*p.2)from by rw[HD.out,sumP_next hno]);obtain⟨m,hm⟩:∃m,m=p.1*p.2:=⟨_,rfl⟩
     have hmz:(p.1:Int)*(p.2:Int)=(m:Int):=by rw[hm];exact(Int.natCast_mul _ _).symm
     rw[←hm]at HE hrm
     have hwm:IntKind.i64.wrap (m:Int)=(m:Int):=by rw[IntKind.wrap_i64];omega
     have hws:IntKind.i64.wrap ((s:Int)+(m:Int))=((s+m:Nat):Int):=by rw[IntKind.wrap_i64];omega
     clear hbv hbd HBz hno hm;go_wp2;go_roundw
     case measure=>simp[intOf];exact HM.out
     exact⟨i+1,s+m,by omega,hrm,rfl,rfl,HE,HBc⟩
  ·obtain rfl:i=l.length:=by omega
   have hlt':¬(l.length:Int)<(l.length:Int):=by omega
   have HE:=qd (show r=s from by rw[HR.out,List.drop_length];rfl);go_wp2;go_ret;exact⟨by rw[HE.out];rfl,HB.out⟩
end Go.Proofs.YtfbljmcjadfkoaaGreatDoor

/-! The plain law of floats below 2 to the 50th: what is exact, and what rounding to the nearest whole number gives. No program in sight. -/
namespace Go.Proofs.YtfbljmcjadfkoaaGreatDoor.AmF
set_option maxRecDepth 100000
set_option maxHeartbeats 4000000
open Go.RowKit Go.Shelf AmC AmL Ieee
variable {m w : Nat}
theorem d_sign:double.signWeight=9223372036854775808:=by decide
theorem d_binade:double.binade=4503599627370496:=by decide
theorem d_inf:double.infRung=9218868437227405312:=by decide
theorem d_least:double.leastPlace= -1074:=by decide
theorem d_frac:double.fractionBits=52:=rfl
theorem read_small (h:w<4503599627370496):double.read w= .number false w (-1074):=by
 unfold Format.read;simp only[d_sign,d_binade,d_inf,d_least];have e1:w/9223372036854775808=0:=Nat.div_eq_of_lt (by omega);have e2:w % 9223372036854775808=w:=Nat.mod_eq_of_lt (by omega);rw[e1,e2,if_pos h];rfl
theorem read_norm {E:Nat}(hE:1≤E)(hE2:E<2047)(hm:m<4503599627370496)(hw:w=E*4503599627370496+m):double.read w= .number false (4503599627370496+m) (-1074+((E-1:Nat):Int)):=by
 unfold Format.read;simp only[d_sign,d_binade,d_inf,d_least];have e1:w/9223372036854775808=0:=Nat.div_eq_of_lt (by omega);have e2:w % 9223372036854775808=w:=Nat.mod_eq_of_lt (by omega)
 have e3:w % 4503599627370496=m:=by omega
 have e4:w/4503599627370496=E:=by omega
 rw[e1,e2,if_neg (by omega),if_pos (by omega),e3,e4];rfl
theorem pow_of_log (h:0<m):2^m.log2≤m∧m<2^(m.log2+1):=⟨Nat.log2_self_le (by omega),Nat.lt_log2_self⟩
theorem log_le {k:Nat}(h0:0<m)(h:m<2^(k+1)):m.log2≤k:=by
 have:=(Nat.log2_lt (by omega)).2 h;omega
theorem log_mul_pow (m z:Nat)(h:0<m):(m*2^z).log2=m.log2+z:=by
 have hp:=Nat.two_pow_pos z;apply Nat.le_antisymm
 ·refine log_le (Nat.mul_pos h hp) ?_;rw[show m.log2+z+1=(m.log2+1)+z by omega,Nat.pow_add];exact Nat.mul_lt_mul_of_pos_right (pow_of_log h).2 hp
 ·rw[Nat.le_log2 (by have:=Nat.mul_pos h hp;omega),Nat.pow_add];exact Nat.mul_le_mul_right _ (pow_of_log h).1
def mant (w:Nat):Nat:=if w<4503599627370496 then w else 4503599627370496+w % 4503599627370496
def cutBy (w:Nat):Nat:=if w<4503599627370496 then 1074 else 1075-w/4503599627370496
def Low (w:Nat):Prop:=w≤4832362400168542208
def whole (w:Nat):Nat:=mant w/2^cutBy w
def left_ (w:Nat):Nat:=mant w % 2^cutBy w
def rounded (w:Nat):Nat:=whole w+if 2^cutBy w≤2*left_ w then 1 else 0
theorem small_div (w k:Nat)(hk:52≤k)(h:w<4503599627370496):w/2^k=0:=
 Nat.div_eq_of_lt (Nat.lt_of_lt_of_le (show w<2^52 by simpa using h) (Nat.pow_le_pow_right (by decide) hk))
theorem low_facts (h:Low w):2≤cutBy w∧cutBy w≤1074∧mant w<9007199254740992∧double.read w= .number false (mant w) (-(cutBy w:Int))∧whole w≤1125899906842624:=by
 unfold Low at h;unfold mant cutBy;by_cases hs:w<4503599627370496
 ·rw[if_pos hs,if_pos hs];refine⟨by omega,by omega,by omega,read_small hs, ?_⟩;unfold whole mant cutBy;rw[if_pos hs,if_pos hs];rw[small_div w 1074 (by omega) hs];exact Nat.zero_le _
 ·rw[if_neg hs,if_neg hs]
  have hE:w/4503599627370496≤1073:=by omega
  have hE1:1≤w/4503599627370496:=by omega
  refine⟨by omega,by omega,by omega, ?_, ?_⟩
  ·rw[read_norm (w:=w) (E:=w/4503599627370496) (m:=w % 4503599627370496) hE1 (by omega) (by omega) (by omega)];congr 1;omega
  ·unfold whole mant cutBy;rw[if_neg hs,if_neg hs];by_cases h73:w/4503599627370496=1073
   ·rw[h73]
    have:w % 4503599627370496=0:=by omega
    rw[this]
    decide
   ·have h4:(4:Nat)*2^(1075-2-w/4503599627370496)=2^(1075-w/4503599627370496):=by
     rw[show(4:Nat)=2^2 by decide,←Nat.pow_add];congr 1;omega
    have h8:(8:Nat)≤2^(1075-w/4503599627370496):=by
     have:(2:Nat)^3≤2^(1075-w/4503599627370496):=Nat.pow_le_pow_right (by decide) (by omega);simpa using this
    have h5:(4503599627370496+w % 4503599627370496)/2^(1075-w/4503599627370496)≤(4503599627370496+w % 4503599627370496)/8:=Nat.div_le_div_left h8 (by decide)
    have h6:(4503599627370496+w % 4503599627370496)/8≤1125899906842623:=by omega
    omega
theorem int_of (A d:Nat):(Datum.number false A (-(d:Int))).toInt .zero=some ((A/2^d:Nat):Int):=by
 unfold Datum.toInt Datum.integral;simp only
 have e0:(-(d:Int)).toNat=0:=by omega
 have e1:(-(-(d:Int))).toNat=d:=by omega
 rw[e0,e1,Nat.shiftLeft_eq,Nat.pow_zero,Nat.mul_one];unfold signed Toward.cut;simp only[Bool.false_eq_true,if_false,Nat.shiftLeft_eq,Nat.pow_zero,Nat.mul_one,Bool.toNat_false,Nat.add_zero,Nat.one_mul];congr 2;by_cases hm:A=0
 ·rw[hm];simp
 ·rcases Nat.le_total d (A.log2+2)with hc|hc
  ·rw[Nat.min_eq_left hc]
  ·rw[Nat.min_eq_right hc];have hl:=(pow_of_log (m:=A) (by omega)).2;have h5:A<2^(A.log2+2):=Nat.lt_of_lt_of_le hl (Nat.pow_le_pow_right (by decide) (by omega));have h6:A<2^d:=Nat.lt_of_lt_of_le h5 (Nat.pow_le_pow_right (by decide) hc);rw[Nat.div_eq_of_lt h5,Nat.div_eq_of_lt h6]
def roundW (w:Nat):Nat:=
 if w/4503599627370496<1023 then(if w/4503599627370496=1022 then 4607182418800017408 else 0)
 else(w+2^(51-(w/4503599627370496-1023)))/2^(52-(w/4503599627370496-1023))*2^(52-(w/4503599627370496-1023))
theorem round_up (M k:Nat)(hk:1≤k):(M+2^(k-1))/2^k=M/2^k+if 2^k≤2*(M % 2^k)then 1 else 0:=by
 have hp:=Nat.two_pow_pos (k-1)
 have hkk:2^k=2*2^(k-1):=by
  conv=>lhs;rw[show k=(k-1)+1 by omega]
  rw[Nat.pow_succ,Nat.mul_comm]
 rw[hkk];generalize 2^(k-1)=h at*;have e:=Nat.div_add_mod M (2*h);have hlt:M % (2*h)<2*h:=Nat.mod_lt _ (by omega);generalize M/(2*h)=q at*;generalize M % (2*h)=r at*;subst e;split
 ·rw[show 2*h*q+r+h=(r-h)+(2*h)*(q+1) by rw[Nat.mul_add];omega,Nat.add_mul_div_left _ _ (by omega),Nat.div_eq_of_lt (by omega)];omega
 ·rw[show 2*h*q+r+h=(r+h)+(2*h)*q by omega,Nat.add_mul_div_left _ _ (by omega),Nat.div_eq_of_lt (by omega)];omega
theorem round_int (h:Low w):(double.read (roundW w)).toInt .zero=some (rounded w:Int)∧roundW w<9218868437227405312:=by
 have hlow:=h;unfold Low at h;unfold roundW rounded whole left_;by_cases hE:w/4503599627370496<1023
 ·rw[if_pos hE];by_cases h22:w/4503599627370496=1022
  ·rw[if_pos h22]
   have hm:mant w=4503599627370496+w % 4503599627370496:=by unfold mant;rw[if_neg (by omega)]
   have hk:cutBy w=53:=by unfold cutBy;rw[if_neg (by omega),h22]
   rw[hm,hk,read_norm (w:=4607182418800017408) (E:=1023) (m:=0) (by decide) (by decide) (by decide) (by decide)]
   have e53:(2:Nat)^53=9007199254740992:=by decide
   rw[e53,if_pos (by omega)]
   have e1:(4503599627370496+w % 4503599627370496)/9007199254740992=0:=by omega
   rw[e1];exact⟨by decide,by decide⟩
  ·rw[if_neg h22]
   have hr:mant w<9007199254740992∧54≤cutBy w:=by
    unfold mant cutBy
    split<;>omega
   obtain⟨hr1,hr2⟩:=hr;have h54:(2:Nat)^54≤2^cutBy w:=Nat.pow_le_pow_right (by decide) hr2
   have e54:(2:Nat)^54=18014398509481984:=by decide
   rw[e54]at h54;generalize 2^cutBy w=K at*;rw[Nat.div_eq_of_lt (by omega),Nat.mod_eq_of_lt (by omega),if_neg (by omega),read_small (by decide)];exact⟨by decide,by decide⟩
 ·rw[if_neg hE]
  have hns:¬w<4503599627370496:=by omega
  have hm:mant w=4503599627370496+w % 4503599627370496:=by unfold mant;rw[if_neg hns]
  have hk:cutBy w=1075-w/4503599627370496:=by unfold cutBy;rw[if_neg hns]
  rw[hm,hk]
  have hEw:w=(w/4503599627370496)*4503599627370496+w % 4503599627370496:=by omega
  have hE3:w/4503599627370496≤1073:=by omega
  have hf:w % 4503599627370496<4503599627370496:=Nat.mod_lt _ (by decide);generalize w/4503599627370496=E at*;generalize w % 4503599627370496=f at*;subst hEw;obtain⟨k,hkE⟩:∃k,k=1075-E:=⟨_,rfl⟩
  have g1:51-(E-1023)=k-1:=by omega
  have g2:52-(E-1023)=k:=by omega
  rw[g1,g2,←hkE]
  have hk2:2≤k:=by omega
  have hk52:k≤52:=by omega
  have e52:4503599627370496=2^k*2^(52-k):=by rw[←Nat.pow_add,show k+(52-k)=52 by omega]
  have hpk:=Nat.two_pow_pos k
  have hdiv:(E*4503599627370496+f+2^(k-1))/2^k=(E-1)*2^(52-k)+(4503599627370496+f+2^(k-1))/2^k:=by
   have:E*4503599627370496+f+2^(k-1)=(4503599627370496+f+2^(k-1))+2^k*((E-1)*2^(52-k)):=by
    have h1:2^k*((E-1)*2^(52-k))=(E-1)*4503599627370496:=by rw[Nat.mul_left_comm,←e52]
    rw[h1];omega
   rw[this,Nat.add_mul_div_left _ _ hpk,Nat.add_comm]
  rw[hdiv,round_up _ _ (by omega)]
  have hR1:2^(52-k)≤(4503599627370496+f)/2^k:=by
   rw[Nat.le_div_iff_mul_le hpk,Nat.mul_comm,←e52];omega
  have hR2:(4503599627370496+f)/2^k<2*2^(52-k):=by
   rw[Nat.div_lt_iff_lt_mul hpk,Nat.mul_assoc,Nat.mul_comm (2^(52-k)),←e52];omega
  have hR:2^(52-k)≤(4503599627370496+f)/2^k+(if 2^k≤2*((4503599627370496+f) % 2^k)then 1 else 0)∧(4503599627370496+f)/2^k+(if 2^k≤2*((4503599627370496+f) % 2^k)then 1 else 0)≤2*2^(52-k):=by
   split<;>omega
  generalize(4503599627370496+f)/2^k+(if 2^k≤2*((4503599627370496+f) % 2^k)then 1 else 0)=R at*
  have hw:((E-1)*2^(52-k)+R)*2^k=(E-1)*4503599627370496+R*2^k:=by
   rw[Nat.add_mul,Nat.mul_assoc,Nat.mul_comm (2^(52-k)),←e52]
  rw[hw]
  have hlo:4503599627370496≤R*2^k:=by
   rw[e52,Nat.mul_comm (2^k)];exact Nat.mul_le_mul_right _ hR.1
  have hhi:R*2^k≤9007199254740992:=by
   have h2:2*2^(52-k)*2^k=9007199254740992:=by rw[Nat.mul_assoc,Nat.mul_comm (2^(52-k)),←e52]
   rw[←h2];exact Nat.mul_le_mul_right _ hR.2
  have hq:R*2^k/2^k=R:=Nat.mul_div_cancel _ hpk
  have hq2:R*2^k=9007199254740992→4503599627370496/2^(k-1)=R:=by
   intro e
   have hkk:2^k=2*2^(k-1):=by
    conv=>lhs;rw[show k=(k-1)+1 by omega]
    rw[Nat.pow_succ,Nat.mul_comm]
   have:4503599627370496=R*2^(k-1):=by
    have h3:R*2^k=2*(R*2^(k-1)):=by rw[hkk,Nat.mul_left_comm]
    omega
   rw[this];exact Nat.mul_div_cancel _ (Nat.two_pow_pos _)
  generalize R*2^k=K at*;by_cases hK:K<9007199254740992
  ·rw[read_norm (w:=(E-1)*4503599627370496+K) (E:=E) (m:=K-4503599627370496) (by omega) (by omega) (by omega) (by omega)]
   have g3:4503599627370496+(K-4503599627370496)=K:=by omega
   have g4:(-1074:Int)+((E-1:Nat):Int)= -(k:Int):=by omega
   rw[g3,g4,int_of,hq];exact⟨rfl,by omega⟩
  ·have hKe:K=9007199254740992:=by omega
   rw[read_norm (w:=(E-1)*4503599627370496+K) (E:=E+1) (m:=0) (by omega) (by omega) (by omega) (by omega)]
   have g4:(-1074:Int)+((E+1-1:Nat):Int)= -((k-1:Nat):Int):=by omega
   rw[Nat.add_zero,g4,int_of,hq2 hKe];exact⟨rfl,by omega⟩
end Go.Proofs.YtfbljmcjadfkoaaGreatDoor.AmF
