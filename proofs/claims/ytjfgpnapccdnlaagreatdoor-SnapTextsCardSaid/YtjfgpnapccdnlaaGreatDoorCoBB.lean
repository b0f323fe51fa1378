/- A dual's New and Take by their contracts. -/
import Derived.Test.YtjfgpnapccdnlaaGreatDoorCoAP
import Derived.Test.YtjfgpnapccdnlaaGreatDoorKit2
import Derived.Test.YtjfgpnapccdnlaaGreatDoorBuilder
import Derived.Test.YtjfgpnapccdnlaaGreatDoorSqT
namespace Go.Proofs.YtjfgpnapccdnlaaGreatDoor
set_option maxRecDepth 100000
set_option maxHeartbeats 8000000
open Go.RowKit dF
section
variable {w w' wr : World} {base db depth g n ob og : Nat} {e t : TypeId} {cs : Array Value} {v : Value} {xs : List Value} {T : aD} {bl : List (Nat × Nat × Nat)}
theorem Xd:(Tryz.prog.info? 337).map (fun i=>(i.zero,i.size,i.bytes))=some (some (.pointer none),1,8):=by kernel_rfl
theorem Ll:qc Tryz.prog 322 337 1 8:=xH Tryz.underlying322 Xd rfl (by decide) (by decide)
structure Gx (w wr:World)(db ob og:Nat)(T:aD)(n depth:Nat)(bl:List (Nat×Nat×Nat))(v:Value):Prop where
 blk:aj wr db 326 #[.pointer (some ⟨ob,0,none⟩),.int .i64 (depth:Int),v,.slice none 0 0,.pointer none,.bool false]
 own:wr.ownsRow w.heap.size 337 1 v bl.length (ptrs (bl.map fun b=>b.1))
 qj:∀(i:Nat) (b:Nat×Nat×Nat),bl[i]?=some b→fE wr b.1 b.2.1 b.2.2 n 0
 tab:TabAt wr ob og T
 nd:(db::bl.flatMap aZ).Nodup
 low:∀q∈db::bl.flatMap aZ,w.heap.size≤q∧q<wr.heap.size
 old:ob<w.heap.size∧og<w.heap.size
 below:Below w.heap.size w wr
theorem yu {t':TypeId}{cs':Array Value}{z:Nat×Nat}(h:aj w g t cs)(h':w.heap[g]?=some (.cells cs' t' z)):t=t':=by
 have h0:w.heap[g]?=_:=h;rw[h0]at h';cases h';rfl
def Jc (w w':World)(db ob og:Nat)(T:aD)(n m depth:Nat):Prop:=
 ∃rb cap bl,w.heap.size≤db∧w.heap.size≤rb∧(∀q∈bl.flatMap aZ,w.heap.size≤q)∧bl.length=m∧uY w' db rb cap ob og bl T n depth 0
theorem Sj (h:w.ownsRow base e 1 v n xs)(hB:aj w g t cs)(ht:t≠e):some g≠v.ownBlock:=by
 rcases h.2 with⟨rfl,_⟩|⟨q,c,cur,rfl,_,hg,_⟩
 ·simp[Value.ownBlock]
 ·intro hq;simp[Value.ownBlock]at hq;subst hq;exact ht (yu hB hg)
theorem o7 (h:w.ownsRow base e 1 v n xs)(hg:w.grownBy w' v.ownBlock)(hB:aj w g t cs)(ht:t≠e):aj w' g t cs:=
 (hg.block g hB.lt (Sj h hB ht)).trans hB
theorem jI {S:List Nat}(h:w.ownsRow base e 1 v n xs)(hm:Mod S w w')(hS:∀k,v.ownBlock=some k→k∉S):w'.ownsRow base e 1 v n xs:=by
 refine⟨h.1, ?_⟩;rcases h.2 with hn|⟨g,cap,cur,hv,hb,hg,rest⟩
 ·exact .inl hn
 ·exact .inr ⟨g,cap,cur,hv,hb,(hm.block g (Array.getElem?_eq_some_iff.1 hg).1 (hS g (by rw[hv];rfl))).trans hg,rest⟩
theorem Gx.next {w2 w4:World}{bb tb gb:Nat}{l:Nat}{v4:Value}(h:Gx w wr db ob og T n depth bl v)(hl:bl.length+1=l)(hb:Below wr.heap.size wr w2)(hB:fE w2 bb tb gb n 0)(h1:wr.heap.size≤bb)(h2:wr.heap.size≤tb)(h3:wr.heap.size≤gb)(hown:w4.ownsRow w.heap.size 337 1 v4 l (ptrs (bl.map fun b=>b.1)++[.pointer (some ⟨bb,0,none⟩)]))(hg:jL w2 w.heap.size v w4 v4):Gx w (w4.setCell ⟨db,2,none⟩ v4) db ob og T n depth (bl++[(bb,tb,gb)]) v4:=by
 subst hl;have hO2:=own_below h.own hb (Nat.le_refl _);have hD2:=h.blk.mod (Mod.of_below hb []) (by simp);have hD4:=o7 hO2 hg.kV hD2 (by decide)
 have hK:∀q1 q2 q3 k,fE w2 q1 q2 q3 n k→fE w4 q1 q2 q3 n k:=fun q1 q2 q3 k hq=>
  ⟨o7 hO2 hg.kV hq.blk (by decide),⟨hq.tab.wide,o7 hO2 hg.kV hq.tab.tab (by decide),o7 hO2 hg.kV hq.tab.IK (by decide),hq.tab.ne⟩,hq.le,hq.pow,hq.ne1,hq.WQ⟩
 have hm:Mod [db] w4 (w4.setCell ⟨db,2,none⟩ v4):=(Mod.refl [db] w4).sl 2 v4;have hlow:=h.low;have hsz:=hb.size;have ae8:=hg.size;have hwl:=h.below.size;have hnd:=List.nodup_cons.1 h.nd;have hBl:=hB.lt;have hBt:=hB.aU;have hBg:=hB.aV;have hdl:=hlow db (by simp)
 have hf:(bl++[(bb,tb,gb)]).flatMap aZ=bl.flatMap aZ++[bb,tb,gb]:=by simp[aZ]
 have hq:∀q∈bl.flatMap aZ,q≠db:=fun q hq e=>hnd.1 (e▸hq);have hbq:∀q1 q2 q3 k,fE w4 q1 q2 q3 n k→q1≠db→q2≠db→q3≠db→fE (w4.setCell ⟨db,2,none⟩ v4) q1 q2 q3 n k:=fun q1 q2 q3 k hh a1 a2 a3=>hh.mod hm (by simpa using a1) (by simpa using a2) (by simpa using a3);refine⟨by simpa using hD4.ak 2 v4, ?_,fun i b hi=> ?_, ?_, ?_,fun q hq2=> ?_,h.old, ?_⟩
 ·have hp:ptrs ((bl++[(bb,tb,gb)]).map fun b=>b.1)=ptrs (bl.map fun b=>b.1)++[.pointer (some ⟨bb,0,none⟩)]:=by simp[ptrs]
  rw[hp,List.length_append];refine jI hown hm fun k hk=> ?_;simp only[List.mem_singleton];rintro rfl;exact Sj hown hD4 (by decide) hk.symm
 ·by_cases hlt:i<bl.length
  ·rw[List.getElem?_append_left hlt]at hi;have oQ:=List.mem_of_getElem? hi;have hin:∀q∈aZ b,q∈bl.flatMap aZ:=fun q hq=>List.mem_flatMap.2 ⟨b,oQ,hq⟩;exact hbq _ _ _ _ (hK _ _ _ _ ((h.qj i b hi).mod (Mod.of_below hb []) (by simp) (by simp) (by simp))) (hq _ (hin _ (by simp[aZ]))) (hq _ (hin _ (by simp[aZ]))) (hq _ (hin _ (by simp[aZ])))
  ·rw[List.getElem?_append_right (by omega)]at hi
   have h0:i-bl.length=0:=by
    rcases Nat.eq_zero_or_pos (i-bl.length)with e|e
    ·exact e
    ·rw[List.getElem?_eq_none (by simp;omega)]at hi;cases hi
   rw[h0]at hi;simp at hi;subst hi;exact hbq bb tb gb 0 (hK bb tb gb 0 hB) (by omega) (by omega) (by omega)
 ·have jS:=h.tab.below hb;have ho:=h.old;exact⟨jS.wide,(o7 hO2 hg.kV jS.tab (by decide)).mod hm (by simp;omega),(o7 hO2 hg.kV jS.IK (by decide)).mod hm (by simp;omega),jS.ne⟩
 ·rw[hf,←List.cons_append,List.nodup_append];refine⟨h.nd, ?_,fun a ha b hb2=> ?_⟩
  ·have:=hB.ne1;have:=hB.WQ;have:=hB.tab.ne;simp;omega
  ·have:=hlow a ha;simp at hb2;omega
 ·rw[hf,←List.cons_append,List.mem_append]at hq2
  have hs:(w4.setCell ⟨db,2,none⟩ v4).heap.size=w4.heap.size:=by simp
  rcases hq2 with hq2|hq2
  ·have:=hlow q hq2;omega
  ·simp at hq2;omega
 ·have hb4:Below w.heap.size w w4:=(h.below.trans (hb.mono hwl)).trans hg.below;exact hb4.trans (hm.below (by intro k hk;simp at hk;omega) hb4.size)
theorem Gx.done (h:Gx w wr db ob og T n depth bl v)(hn:Pw n)(hm:1≤bl.length∧bl.length≤2)(hd:depth≤15):
  ∃rb cap,uY wr db rb cap ob og bl T n depth 0∧w.heap.size≤rb:=by
 obtain⟨A,cap,rfl⟩:=aH h.own;obtain⟨rb,rfl,hrb,hrow,_⟩:=fA.iC h.own (by omega)
 obtain⟨g,cap',cur,hv,_,hg,_⟩:∃g cap' cur,(Value.slice (some ⟨rb,0,none⟩) bl.length cap)= .slice (some ⟨g,0,none⟩) bl.length cap'∧w.heap.size≤g∧wr.heap[g]?=some (.cells cur 337 (0,0))∧True:=by
  rcases h.own.2 with⟨he,_⟩|⟨g,c,cur,hv,hb,hg,_⟩
  ·cases he
  ·exact⟨g,c,cur,hv,hb,hg,trivial⟩
 cases hv;have hpos:=hn.pos;have hnd:=List.nodup_cons.1 h.nd;have hl0:=h.low db (by simp)
 have hrq:∀q∈bl.flatMap aZ,rb≠q:=fun q hq e=>by
  subst e;obtain⟨b,hb,Av⟩:=List.mem_flatMap.1 hq;obtain⟨i,hi⟩:=List.getElem?_of_mem hb;have hB:=h.qj i b hi;simp only[aZ,List.mem_cons,List.not_mem_nil,or_false]at Av;rcases Av with rfl|rfl|rfl
  ·exact absurd (yu hB.blk hg) (by decide)
  ·exact absurd (yu hB.tab.tab hg) (by decide)
  ·exact absurd (yu hB.tab.IK hg) (by decide)
 have hrd:rb≠db:=fun e=>by subst e;exact absurd (yu h.blk hg) (by decide)
 have hold:=h.old
 have hoq:∀q,q<w.heap.size→q∉bl.flatMap aZ:=fun q hq hm=>by
  have:=(h.low q (List.mem_cons_of_mem _ hm)).1;omega
 have hne:=h.tab.ne;refine⟨rb,cap,⟨h.blk,hrow,fun i b hb=> ?_,h.tab,hn,hm,Nat.mul_pos hpos (by omega),hd, ?_⟩,hrb⟩
 ·have:pV n 0 i=0:=by unfold pV;omega
  rw[this];exact h.qj i b hb
 ·unfold bC;show(db::rb::ob::og::bl.flatMap aZ).Nodup;simp only[List.nodup_cons,List.mem_cons,not_or];exact⟨⟨by omega,by omega,by omega,hnd.1⟩,⟨by omega,by omega,fun hq=>hrq rb hq rfl⟩,⟨hne,hoq _ hold.1⟩,hoq _ hold.2,hnd.2⟩
theorem aae (ob og n m depth:Nat)(dep:Int)(T:aD)(hn:Pw n)(hcase:m=1∧dep= -1∧depth=0∨m=2∧dep=(depth:Int)∧depth≤15)(w:World)(h:TabAt w ob og T):
  Calls Tryz.prog 152 #[.pointer (some ⟨ob,0,none⟩),.int .i64 (n:Int),.int .i64 dep] w fun e w'=>∃db,e= .returned (.tuple #[dw db,.nilIface])∧Jc w w' db ob og T n m depth∧Below w.heap.size w w':=by
 have htl:=h.aU;have hgl:=h.aV
 have Uu:¬dep>15:=by omega
 have Pb:=qd (fun V:World=>WR n hn V);unfold nS at Pb;unfold dw;have Pd:=qd h
 have hdd:(if dep<0 then 0 else dep)=(depth:Int):=by split<;>omega
 have hdm:max dep 0=(depth:Int):=by omega
 clear h;go_in;go_upto_region 6 with fail;refine dx (F:=fun v=>Gx w v w.heap.size ob og T n depth [] (.slice none 0 0)) ⟨by first|(rw[←hdd];exact aj.new w _ _)|(rw[←hdm];exact aj.new w _ _),World.ownsRow_nil _ _ _ _,fun i b hb=>by simp at hb,Pd.out.below ((Below.refl _ _).alloc (Nat.le_refl _) _),by simp,by simp,⟨htl,hgl⟩,(Below.refl _ _).alloc (Nat.le_refl _) _⟩ ?_;rintro w1 hN0;obtain⟨db,hdb⟩:∃db,db=w.heap.size:=⟨_,rfl⟩;rw[←hdb]at hN0⊢
 replace hdb:w.heap.size≤db:=by omega
 have Pe:=qd hN0;clear hN0;go_wp2;go_loopw [6,7,9,10,11] (fun _ _ i _ _ wr=>∃(j:Nat) (bl:List (Nat×Nat×Nat)) (v:Value),j≤m∧i= .int .i64 j∧bl.length=j∧Gx w wr db ob og T n depth bl v) (fun _ _ i _ _ _=>m-(intOf i).toNat)
 case atStart=>exact⟨0,[],_,by omega,rfl,rfl,Pe.out⟩
 case round=>
  obtain⟨j,bl,v,hj,rfl,hbl,hN⟩:=hrel
  have hm2:m≤2:=by omega
  by_cases hlt:j<m
  ·have HN:=qd hN;have hwl:=hN.below.size;clear hN
   have hcond:j=0∨(j=1∧0≤dep):=by omega
   have HB1:=qd (Pb.out wr);rcases hcond with rfl|⟨rfl,hdp⟩
   ·go_wp2_with fail;refine(HB1.out).mono ?_;rintro y w2 ⟨bb,tb,gb,hbb,htb,hgb,rfl,hB,hb⟩;have hb2:Below w.heap.size w w2:=HN.out.below.trans (hb.mono hwl);have hdl:db<wr.heap.size:=(HN.out.low db (by simp)).2;have hD2:=HN.out.blk.mod (Mod.of_below hb []) (by simp);have hO2:=own_below HN.out.own hb (Nat.le_refl _);have dc2:=hD2.cell 2;simp only[gl]at dc2;have df2:=hD2.frozen 2;have adq:=hb.size
    have ae9:db<w2.heap.size:=by omega
    have HD2:=qd hD2;have HB2:=qd hB;have zh:=qd hO2;have Hb:=qd hb;have Hb2:=qd hb2;clear hD2 hB hO2 hb hb2;go_wp2_with (at_builtin;refine aB rfl rfl Ll zh.out rfl rfl (by simp) rfl rfl (by omega) (by omega) ?_;intro v4 w4 dh hg4;rw[hbl]at dh;have jg:=qd (HN.out.next (by rw[hbl]) Hb.out HB2.out hbb htb hgb dh hg4);have hD4:=o7 zh.out hg4.kV HD2.out (by decide);have dc4:=hD4.cell 2;have df4:=hD4.frozen 2;obtain⟨A4,c4,rfl⟩:=aH dh;simp only[gl]at dc4;clear hD4 dh hg4);go_roundw
    case rel=>exact⟨0+1,bl++[(bb,tb,gb)],_,by omega,by go_num,by simp[hbl],jg.out⟩
    case measure=>simp[intOf];omega
   ·go_wp2_with fail;refine(HB1.out).mono ?_;rintro y w2 ⟨bb,tb,gb,hbb,htb,hgb,rfl,hB,hb⟩;have hb2:Below w.heap.size w w2:=HN.out.below.trans (hb.mono hwl);have hdl:db<wr.heap.size:=(HN.out.low db (by simp)).2;have hD2:=HN.out.blk.mod (Mod.of_below hb []) (by simp);have hO2:=own_below HN.out.own hb (Nat.le_refl _);have dc2:=hD2.cell 2;simp only[gl]at dc2;have df2:=hD2.frozen 2;have adq:=hb.size
    have ae9:db<w2.heap.size:=by omega
    have HD2:=qd hD2;have HB2:=qd hB;have zh:=qd hO2;have Hb:=qd hb;have Hb2:=qd hb2;clear hD2 hB hO2 hb hb2;go_wp2_with (at_builtin;refine aB rfl rfl Ll zh.out rfl rfl (by simp) rfl rfl (by omega) (by omega) ?_;intro v4 w4 dh hg4;rw[hbl]at dh;have jg:=qd (HN.out.next (by rw[hbl]) Hb.out HB2.out hbb htb hgb dh hg4);have hD4:=o7 zh.out hg4.kV HD2.out (by decide);have dc4:=hD4.cell 2;have df4:=hD4.frozen 2;obtain⟨A4,c4,rfl⟩:=aH dh;simp only[gl]at dc4;clear hD4 dh hg4);go_roundw
    case rel=>exact⟨1+1,bl++[(bb,tb,gb)],_,by omega,by go_num,by simp[hbl],jg.out⟩
    case measure=>simp[intOf];omega
  ·obtain rfl:j=m:=by omega
   obtain⟨rb,cap,hDu,hrb⟩:=hN.done hn (by omega) (by omega);have FP:=qd hDu;have HN:=qd hN;clear hDu hN
   have hc0:¬(j:Int)=0:=by omega
   have hc1:(j:Int)=1→¬0≤dep:=by omega
   rcases hcase with⟨rfl,rfl,rfl⟩|⟨rfl,rfl,ahb⟩
   focus
    skip
   rotate_left
   focus
    skip
   all_goals
    go_wp2;refine bodyPost_ret (v:= .tuple #[.pointer (some ⟨db,0,none⟩),.nilIface]) (by simp[results,Tryz.results152,go_sem]) rfl ?_;have hlow:=HN.out.low;exact⟨db,rfl,⟨rb,cap,bl,hdb,hrb,fun q hq=>(hlow q (List.mem_cons_of_mem _ hq)).1,hbl,FP.out⟩,HN.out.below⟩
theorem Lm (db rb cap ob og fb bQ eb vb bT:Nat)(bE:List Nat)(bs:List (Nat×Nat))(T:aD)(Ts:List aD)(n depth next:Nat)(w:World)(h:oU w db rb cap ob og fb bQ eb vb bT bE bs T Ts n depth next)(sM:T.gs.length≤64)(hnx:next=T.gs.length):
  Calls Tryz.prog 224 #[dw db] w fun e w'=>∃vG c',e= .returned (.tuple #[.slice (some ⟨vG,0,none⟩) bs.length c',.nilIface])∧fA w' vG (bs.map Prod.fst)∧w.heap.size≤vG∧gP w' bs Ts∧Mod [db] w w':=by
 have hnd:=h.nd;unfold aS at hnd;simp only[List.nodup_cons,List.mem_cons,not_or,List.mem_append]at hnd;obtain⟨⟨d1,d2,d3,d4,d5,d6,d7,d8⟩,_⟩:=hnd;obtain⟨n1,n2⟩:=h.many
 have hbs:∀b∈bs,b.1∉[db]∧b.2∉[db]:=fun b hb=>by
  simp only[List.mem_singleton];exact⟨fun e=>d8 (e▸dG.2 ⟨b,hb,.inl rfl⟩),fun e=>d8 (e▸dG.2 ⟨b,hb,.inr rfl⟩)⟩
 have HL:=qd (qG db rb cap ob og fb bQ eb vb bT bE bs T Ts n depth next w h sM (by omega))
 have hz:T.gs.length-next=0:=by omega
 rw[hz]at HL;unfold dw at HL⊢;have hfl:(bs.map Prod.fst).length=bs.length:=List.length_map ..;have HD:=qd (h.blk);have HF:=qd (h.fresh);have dD:=qd (h.tabs);have ah:=qd (Mod.refl [db] w);clear h hz;go_in;go_wp2_with fail;refine(HL.out).mono ?_;rintro y w1 ⟨rfl,hw1⟩;have hm:Mod [] w w1:=hw1▸Mod.drewN [] w 1;clear hw1 HL;replace HD:=qM hm HD;replace HF:=qM hm HF;replace dD:=qd (dD.out.mod hm (by simp));replace ah:=qd (ah.out.then (hm.more (by simp)));clear hm;have dc:=HD.out.c6;have df:=HD.out.f6;go_upto_region 4 with fail;have q1:=qJ HD.out.lt (qJ HF.out.lt (qJ HD.out.lt HF.out.lt));refine Io HD.out ?_;rintro w2 ⟨hnew,hm⟩;simp only[pt]at hnew;clear dc df;replace HF:=qM hm HF;replace dD:=qd (dD.out.mod hm hbs);have z5:=(hm).size;replace ah:=qU ah hm;replace HD:=qd hnew;clear hnew hm;have dc:=HD.out.c6;have q6:=qJ HD.out.lt HF.out.lt;have mQ:=qd HF.out.reads;rw[hfl]at mQ;go_wp2_with (at_builtin;refine Ir rfl rfl lH (World.ownsRow_lit w2 #[] 0 (Nat.le_refl _) (by simp) rfl) rfl rfl (mQ.out.alloc (Nat.le_refl _) _) (yh _) (by omega) (by simp) ?_;intro v4 w4 dh hg4;rw[Nat.zero_add]at dh;obtain⟨A4,c4,rfl⟩:=aH dh;have hb4:Below w2.heap.size w2 w4:=((Below.refl _ _).alloc (Nat.le_refl _) _).trans hg4.below);obtain⟨vG,rfl,Gw,hrow,_⟩:=fA.iC (show w4.ownsRow w2.heap.size 181 1 (.slice A4 bs.length c4) bs.length (ptrs (bs.map Prod.fst))from by simpa using dh) (by omega);have hsz:=ah.out.size
 refine bodyPost_ret (v:= .tuple #[.slice (some ⟨vG,0,none⟩) bs.length c4,.nilIface]) (by simp[results,Tryz.results224,go_sem]) rfl ⟨vG,⟨c4,rfl⟩,hrow,by omega,dD.out.mod (Mod.of_below hb4 []) (by simp),ah.out.then (Mod.of_below hb4 _)⟩
end
def mE (l t:Int)(g:Nat):Bool:=decide (4*(g:Int)≤l)||decide (4*(g:Int)-l≤t)
def ji (l t:Int)(g lo gl:Nat):Nat:=if mE l t g=false then 0 else if l≤2*(g:Int)then 1 else if 8≤g∧lo<gl then 3 else if g<64 then 2 else 1
def eT (l t:Int)(g lo gl:Nat):Bool:=mE l t g && (decide (2*(g:Int)<l) && (decide (8≤g) && (decide (lo=gl) && decide (gl<5))))
theorem DT (l t:Int)(g:Nat)(hg:g≤64)(hl:0≤l∧l≤1000)(ht:0≤t∧t≤1000)(w:World):Calls Tryz.prog 214 #[.int .i64 l,.int .i64 t,.int .i64 (g:Int)] w fun e w'=>e= .returned (.bool (mE l t g))∧w=w':=by
 obtain⟨l0,l1⟩:=hl;obtain⟨t0,t1⟩:=ht;by_cases h1:4*(g:Int)≤l
 ·have hr:mE l t g=true:=by simp[mE,h1]
  rw[hr];clear hr;go_in;go_wp2;go_ret;exact⟨rfl,rfl⟩
 ·by_cases h2:4*(g:Int)-l≤t
  ·have hr:mE l t g=true:=by simp[mE,h2]
   rw[hr];clear hr;go_in;go_wp2;go_ret;exact⟨rfl,rfl⟩
  ·have hr:mE l t g=false:=by simp[mE,h1,h2]
   rw[hr];clear hr;go_in;go_wp2;go_ret;exact⟨rfl,rfl⟩
theorem afa (a b c d:Int)(P:Program)(w:World)(h1:0≤a)(h2:0≤b)(h3:0≤c)(h4:0≤d)(ts:Array TypeId)(t:TypeId):∃m,0≤m∧(Builtin.min_ ts t #[.int .i64 a,.int .i64 b,.int .i64 c,.int .i64 d]).run P w= .ok (.int .i64 m) w:=by
 have step:∀x y:Int,0≤x→0≤y→∃m,0≤m∧(Builtin.min2 (.int .i64 x) (.int .i64 y)).run P w= .ok (.int .i64 m) w:=fun x y hx hy=>by
  unfold Builtin.min2;by_cases h:y<x
  ·exact⟨y,hy,by simp[h,go_sem]⟩
  ·exact⟨x,hx,by simp[h,go_sem]⟩
 obtain⟨m1,n1,e1⟩:=step a b h1 h2;obtain⟨m2,n2,e2⟩:=step m1 c n1 h3;obtain⟨m3,n3,e3⟩:=step m2 d n2 h4;refine⟨m3,n3, ?_⟩;show((Builtin.min2 (.int .i64 a) (.int .i64 b))>>=fun x=>(Builtin.min2 x (.int .i64 c))>>=fun x=>(Builtin.min2 x (.int .i64 d))>>=fun x=>pure x).run P w=_;simp only[Sem.run_bind,e1,e2,e3,Result.andThen_ok,Sem.run_pure]
theorem FQ (l t:Int)(g lo gl:Nat)(hg:Pw g)(hl:0≤l)(ht:0≤t)(w:World):Calls Tryz.prog 213 #[.int .i64 l,.int .i64 t,.int .i64 (g:Int),.int .i64 (lo:Int),.int .i64 (gl:Int)] w fun e w'=>e= .returned (.bool true)∧w=w':=by
 have HR:=qd (pO g hg w)
 have h3:(0:Int)≤(lo:Int):=by omega
 have h4:(0:Int)≤(gl:Int):=by omega
 obtain⟨m,hm0,hmn⟩:=afa l t (lo:Int) (gl:Int) Tryz.prog w hl ht h3 h4 #[3,3,3,3] 3;clear hg;go_in;go_wp2_with fail;refine(HR.out).mono ?_;rintro y w1 ⟨rfl,rfl⟩;go_wp2;go_ret;exact⟨rfl,rfl⟩
theorem Pf (l t:Int)(g lo gl:Nat)(hg:Pw g)(hl:0≤l∧l≤1000)(ht:0≤t∧t≤1000)(w:World):Calls Tryz.prog 149 #[.int .i64 l,.int .i64 t,.int .i64 (g:Int),.int .i64 (lo:Int),.int .i64 (gl:Int)] w fun e w'=>e= .returned (.int .i64 ((ji l t g lo gl:Nat):Int))∧w=w':=by
 have HF:=qd (FQ l t g lo gl hg hl.1 ht.1 w);have HN:=qd (DT l t g hg.le hl ht w);have sM:=hg.le;obtain⟨l0,l1⟩:=hl;unfold ji;cases hb:mE l t g
 case' false=>
  rw[hb]at HN;clear hb hg ht
 case' true=>
  rw[hb]at HN;clear hb hg ht;rw[if_neg (by decide)];by_cases h1:l≤2*(g:Int)
  focus
   rw[if_pos h1]
  rotate_left
  focus
   rw[if_neg h1];by_cases h2:8≤g
   focus
    by_cases h3:lo<gl
    focus
     rw[if_pos ⟨h2,h3⟩]
     have h2':(8:Int)≤(g:Int):=by omega
     have h3':(lo:Int)<(gl:Int):=by omega
    rotate_left
    focus
     rw[if_neg (fun h=>h3 h.2)]
     have h2':(8:Int)≤(g:Int):=by omega
     have h3':¬(lo:Int)<(gl:Int):=by omega
     by_cases h4:g<64
     focus
      rw[if_pos h4]
      have h4':(g:Int)<64:=by omega
     rotate_left
     focus
      rw[if_neg h4]
      have h4':¬(g:Int)<64:=by omega
   rotate_left 3
   focus
    rw[if_neg (fun h=>h2 h.1),if_pos (show g<64 by omega)]
    have h2':¬(8:Int)≤(g:Int):=by omega
    have h4':(g:Int)<64:=by omega
 all_goals
  go_in;go_wp2_with fail;refine(HF.out).mono ?_;rintro y w1 ⟨rfl,rfl⟩;go_wp2_with fail;refine(HN.out).mono ?_;rintro y w1 ⟨rfl,rfl⟩;go_wp2;go_ret;exact⟨rfl,rfl⟩
theorem M0 (l t:Int)(g lo gl:Nat)(hg:Pw g)(hl:0≤l∧l≤1000)(ht:0≤t∧t≤1000)(w:World):Calls Tryz.prog 150 #[.int .i64 l,.int .i64 t,.int .i64 (g:Int),.int .i64 (lo:Int),.int .i64 (gl:Int)] w fun e w'=>e= .returned (.bool (eT l t g lo gl))∧w=w':=by
 have HF:=qd (FQ l t g lo gl hg hl.1 ht.1 w);have HN:=qd (DT l t g hg.le hl ht w);have sM:=hg.le;obtain⟨l0,l1⟩:=hl;cases hb:mE l t g
 case' false=>
  rw[hb]at HN;rw[show eT l t g lo gl=false from by simp[eT,hb]];clear hb hg ht
 case' true=>
  rw[hb]at HN;clear hg ht;by_cases h1:2*(g:Int)<l
  focus
   have g1:2*(g:Int)<l:=by omega
   by_cases h2:8≤g
   focus
    have g2:(8:Int)≤(g:Int):=by omega
    by_cases h3:lo=gl
    focus
     subst h3;by_cases h4:lo<5
     focus
      have g4:(lo:Int)<5:=by omega
      rw[show eT l t g lo lo=true from by simp[eT,hb,h1,h2,h4]]
     rotate_left
     focus
      have g4:¬(lo:Int)<5:=by omega
      rw[show eT l t g lo lo=false from by simp[eT,hb,h1,h2,h4]]
    rotate_left 2
    focus
     have g3:¬(lo:Int)=(gl:Int):=by omega
     rw[show eT l t g lo gl=false from by simp[eT,hb,h1,h2,h3]]
   rotate_left 3
   focus
    have g2:¬(8:Int)≤(g:Int):=by omega
    rw[show eT l t g lo gl=false from by simp[eT,hb,h1,h2]]
  rotate_left 4
  focus
   have g1:¬2*(g:Int)<l:=by omega
   rw[show eT l t g lo gl=false from by simp[eT,hb,h1]]
  all_goals
   clear hb
   try clear h1
   try clear h2
   try clear h4
 all_goals
  go_in;go_wp2_with fail;refine(HF.out).mono ?_;rintro y w1 ⟨rfl,rfl⟩;go_wp2_with fail;refine(HN.out).mono ?_;rintro y w1 ⟨rfl,rfl⟩;go_wp2;go_ret
  first|exact⟨rfl,rfl⟩|exact⟨jl (by simp;omega),rfl⟩
theorem M4 (kind g each many:Nat)(hg:Pw g)(he:Pw each)(hk:kind=1∧each=g∧many=1∨kind=2∧each=2*g∧many=1∨kind=3∧each=g∧many=2)(w:World):
  Calls Tryz.prog 151 #[.int .i64 (kind:Int),.int .i64 (g:Int)] w fun e w'=>e= .returned (.tuple #[.int .i64 (each:Int),.int .i64 (many:Int),.nilIface])∧w=w':=by
 have HR:=qd (pO g hg w);have HE:=qd (pO each he w);have h64:=he.le
 have hm:∀q:Nat,((2*q:Nat):Int)=2*(q:Int):=fun q=>by omega
 clear hg he;rcases hk with⟨rfl,rfl,rfl⟩|⟨rfl,rfl,rfl⟩|⟨rfl,rfl,rfl⟩
 all_goals
  try rw[hm]at HE
  try rw[hm]
  clear hm;go_in;go_wp2_with fail;refine(HR.out).mono ?_;rintro y w1 ⟨rfl,rfl⟩;go_wp2_with fail;refine(HE.out).mono ?_;rintro y w1 ⟨rfl,rfl⟩;go_wp2
 ·refine bodyPost_ret (v:= .tuple #[.int .i64 (each:Int),.int .i64 1,.nilIface]) (by simp[results,Tryz.results151,go_sem]) rfl ⟨rfl,rfl⟩
 ·refine bodyPost_ret (v:= .tuple #[.int .i64 (2*(g:Int)),.int .i64 1,.nilIface]) (by simp[results,Tryz.results151,go_sem]) rfl ⟨rfl,rfl⟩
 ·refine bodyPost_ret (v:= .tuple #[.int .i64 (each:Int),.int .i64 2,.nilIface]) (by simp[results,Tryz.results151,go_sem]) rfl ⟨rfl,rfl⟩
def aR (b:Nat):Value:= .pointer (some ⟨b,0,none⟩)
def Through (Post:World→World→Prop)(w w':World):Prop:=∃V V' rbk,Below w.heap.size w V∧Post V V'∧w.heap.size≤rbk∧rbk<V.heap.size∧Mod [rbk] V' w'
theorem zn (nb tb db:Nat)(pfx au job a b:Int)(P:MP)(c:bF)(e0:ay)(b0:Bool)(S:List Nat)(Post:World→World→Prop)(w:World)(hnd:aj w nb 186 #[.int .i64 pfx,.int .i64 au,.pointer (some ⟨tb,0,none⟩),.int .i64 job,.pointer (some ⟨db,0,none⟩)])(hS:∀k∈S,k<w.heap.size)
  (HC:∀V,Below w.heap.size w V→Calls Tryz.prog 227 #[.pointer (some ⟨db,0,none⟩),aN (some ⟨P.mb,P.mo,none⟩) c,.int .u64 a,.int .u64 b] V fun e V'=>e= .returned (.tuple #[aW e0,.bool b0])∧Mod S V V'∧Post V V'):
  Calls Tryz.prog 171 #[aR nb,aN (some ⟨P.mb,P.mo,none⟩) c,.int .u64 a,.int .u64 b] w fun e w'=>e= .returned (.tuple #[aW e0,.bool b0])∧Through Post w w':=by
 obtain⟨W,hW,hB,hL,hR⟩:=qP w 145 #[.pointer (some ⟨P.mb,P.mo,none⟩),.int .i64 c.p,.int .i64 c.v,.int .i64 c.u] 148 #[.int .u64 0,.int .u64 0,.int .u64 0];have hnl:=hnd.lt;have hwl:w.heap.size<W.heap.size:=hL.lt;have HW:=qd hW;have Lp:=qd hB;have HC:=qd (HC W.drew (hB.trans ((Below.refl _ _).drew.mono hB.size)));unfold aR;unfold aN aW at HC⊢;have HN:=qd (hnd.below hB hnd.lt);have HL:=qd (hL);have HR:=qd (hR);have ah:=qd (Mod.of_below hB []);clear hW hB hnd hL hR;go_in;go_upto_region 1 with fail;rw[←HW.out];have nc:=HN.out.c5;have lc:=HL.out.c4;go_upto_region 2 with fail;refine rT (fun(w':World)=>w'.cell? ⟨nb,4,none⟩=some (.pointer (some ⟨db,0,none⟩))∧w'.cell? ⟨w.heap.size,0,none⟩=some (.pointer (some ⟨P.mb,P.mo,none⟩))∧w'.cell? ⟨w.heap.size,1,none⟩=some (.int .i64 c.p)∧w'.cell? ⟨w.heap.size,2,none⟩=some (.int .i64 c.v)∧w'.cell? ⟨w.heap.size,3,none⟩=some (.int .i64 c.u)) [7,10] ?_;have hHeld:=(⟨nc.2.2.2.2,lc.1,lc.2.1,lc.2.2.1,lc.2.2.2⟩:_∧_∧_∧_∧_);refine vW 0 rfl ?_;refine vW 1 rfl ?_;refine vW 2 rfl ?_;refine vT 3 rfl ?_;refine vT 4 rfl ?_;refine vW 5 rfl ?_;refine vW 6 rfl ?_;refine nT 7 rfl fun K hK=> ?_;go_simp;refine(HC.out).mono ?_;rintro y w2 ⟨rfl,hm,hpost⟩;have Xe:=qd hpost;have hR2:=HR.out.mod ((Mod.drewN S W 1).then hm) (by intro hk;have:=hS _ hk;omega);have HR2:=qd hR2;have rc:=hR2.c3;have rf:=hR2.f3;clear hpost hm hR2;go_wp2_with fail;refine kO hK ?_;clear hK K;refine vL 8 rfl ?_;refine vL 9 rfl ?_;refine nT 10 rfl fun K hK=> ?_;go_simp
 refine kO hK ?_;clear hK K;refine vL 11 rfl ?_;refine aX (by kernel_rfl) ?_ _;have FR:=((HR2.out.ak 0 (.int .u64 (e0.key:Int))).ak 1 (.int .u64 (e0.val:Int))).ak 2 (.int .u64 (e0.hash:Int));simp only[pt]at FR;refine dx (F:=fun v=>aj v (w.heap.size+1) 148 #[.int .u64 (e0.key:Int),.int .u64 (e0.val:Int),.int .u64 (e0.hash:Int)]∧Mod [w.heap.size+1] w2 v) ⟨FR,(((Mod.refl [w.heap.size+1] w2).ak (b:=w.heap.size+1) (.inl (by simp)) 0 (.int .u64 (e0.key:Int))).ak (b:=w.heap.size+1) (.inl (by simp)) 1 (.int .u64 (e0.val:Int))).ak (b:=w.heap.size+1) (.inl (by simp)) 2 (.int .u64 (e0.hash:Int))⟩ ?_;rintro w3 ⟨Am,kL⟩;clear FR rc rf;have rx:=Am.c3;clear Am;have HFin:=qd (show Through Post w w3 from⟨W.drew,w2,w.heap.size+1,Lp.out.trans ((Below.refl _ _).drew.mono Lp.out.size),Xe.out,by omega,HR.out.lt,kL⟩);clear kL;go_wp2;refine bodyPost_ret (v:= .tuple #[.agg #[.int .u64 (e0.key:Int),.int .u64 (e0.val:Int),.int .u64 (e0.hash:Int)],.bool b0]) (by simp[results,Tryz.results171,go_sem,rx.1,rx.2.1,rx.2.2]) rfl ⟨rfl,HFin.out⟩
theorem J3 (nb tb:Nat)(pfx au job a b:Int)(P:MP)(c:bF)(e0:ay)(b0:Bool)(S:List Nat)(Post:World→World→Prop)(w:World)(hnd:aj w nb 186 #[.int .i64 pfx,.int .i64 au,.pointer (some ⟨tb,0,none⟩),.int .i64 job,.pointer none])(hS:∀k∈S,k<w.heap.size)
  (HC:∀V,Below w.heap.size w V→Calls Tryz.prog 228 #[.pointer (some ⟨tb,0,none⟩),aN (some ⟨P.mb,P.mo,none⟩) c,.int .u64 a,.int .u64 b] V fun e V'=>e= .returned (.tuple #[aW e0,.bool b0])∧Mod S V V'∧Post V V'):
  Calls Tryz.prog 171 #[aR nb,aN (some ⟨P.mb,P.mo,none⟩) c,.int .u64 a,.int .u64 b] w fun e w'=>e= .returned (.tuple #[aW e0,.bool b0])∧Through Post w w':=by
 obtain⟨W,hW,hB,hL,hR⟩:=qP w 145 #[.pointer (some ⟨P.mb,P.mo,none⟩),.int .i64 c.p,.int .i64 c.v,.int .i64 c.u] 148 #[.int .u64 0,.int .u64 0,.int .u64 0];have hnl:=hnd.lt;have hwl:w.heap.size<W.heap.size:=hL.lt;have HW:=qd hW;have Lp:=qd hB;have HC:=qd (HC W.drew (hB.trans ((Below.refl _ _).drew.mono hB.size)));unfold aR;unfold aN aW at HC⊢;have HN:=qd (hnd.below hB hnd.lt);have HL:=qd (hL);have HR:=qd (hR);have ah:=qd (Mod.of_below hB []);clear hW hB hnd hL hR;go_in;go_upto_region 1 with fail;rw[←HW.out];have nc:=HN.out.c5;have lc:=HL.out.c4;go_upto_region 3 with fail;refine rT (fun(w':World)=>w'.cell? ⟨nb,2,none⟩=some (.pointer (some ⟨tb,0,none⟩))∧w'.cell? ⟨w.heap.size,0,none⟩=some (.pointer (some ⟨P.mb,P.mo,none⟩))∧w'.cell? ⟨w.heap.size,1,none⟩=some (.int .i64 c.p)∧w'.cell? ⟨w.heap.size,2,none⟩=some (.int .i64 c.v)∧w'.cell? ⟨w.heap.size,3,none⟩=some (.int .i64 c.u)) [7,10] ?_;have hHeld:=(⟨nc.2.2.1,lc.1,lc.2.1,lc.2.2.1,lc.2.2.2⟩:_∧_∧_∧_∧_);refine vW 0 rfl ?_;refine vW 1 rfl ?_;refine vW 2 rfl ?_;refine vT 3 rfl ?_;refine vT 4 rfl ?_;refine vW 5 rfl ?_;refine vW 6 rfl ?_;refine nT 7 rfl fun K hK=> ?_;go_simp;refine(HC.out).mono ?_;rintro y w2 ⟨rfl,hm,hpost⟩;have Xe:=qd hpost;have hR2:=HR.out.mod ((Mod.drewN S W 1).then hm) (by intro hk;have:=hS _ hk;omega);have HR2:=qd hR2;have rc:=hR2.c3;have rf:=hR2.f3;clear hpost hm hR2;go_wp2_with fail;refine kO hK ?_;clear hK K;refine vL 8 rfl ?_;refine vL 9 rfl ?_;refine nT 10 rfl fun K hK=> ?_;go_simp
 refine kO hK ?_;clear hK K;refine vL 11 rfl ?_;refine aX (by kernel_rfl) ?_ _;have FR:=((HR2.out.ak 0 (.int .u64 (e0.key:Int))).ak 1 (.int .u64 (e0.val:Int))).ak 2 (.int .u64 (e0.hash:Int));simp only[pt]at FR;refine dx (F:=fun v=>aj v (w.heap.size+1) 148 #[.int .u64 (e0.key:Int),.int .u64 (e0.val:Int),.int .u64 (e0.hash:Int)]∧Mod [w.heap.size+1] w2 v) ⟨FR,(((Mod.refl [w.heap.size+1] w2).ak (b:=w.heap.size+1) (.inl (by simp)) 0 (.int .u64 (e0.key:Int))).ak (b:=w.heap.size+1) (.inl (by simp)) 1 (.int .u64 (e0.val:Int))).ak (b:=w.heap.size+1) (.inl (by simp)) 2 (.int .u64 (e0.hash:Int))⟩ ?_;rintro w3 ⟨Am,kL⟩;clear FR rc rf;have rx:=Am.c3;clear Am;have HFin:=qd (show Through Post w w3 from⟨W.drew,w2,w.heap.size+1,Lp.out.trans ((Below.refl _ _).drew.mono Lp.out.size),Xe.out,by omega,HR.out.lt,kL⟩);clear kL;go_wp2;refine bodyPost_ret (v:= .tuple #[.agg #[.int .u64 (e0.key:Int),.int .u64 (e0.val:Int),.int .u64 (e0.hash:Int)],.bool b0]) (by simp[results,Tryz.results171,go_sem,rx.1,rx.2.1,rx.2.2]) rfl ⟨rfl,HFin.out⟩
end Go.Proofs.YtjfgpnapccdnlaaGreatDoor
