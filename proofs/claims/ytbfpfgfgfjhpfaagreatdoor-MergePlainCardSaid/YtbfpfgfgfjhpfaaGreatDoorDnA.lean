/- A map of a snapshot, by its contract. No statement of the claim. -/
import Derived.Test.YtbfpfgfgfjhpfaaGreatDoorMgE
import Derived.Test.YtbfpfgfgfjhpfaaGreatDoorSq
import Derived.Test.YtbfpfgfgfjhpfaaGreatDoorCoX
import Derived.Test.YtbfpfgfgfjhpfaaGreatDoorPlA
import Derived.Test.YtbfpfgfgfjhpfaaGreatDoorCoS
namespace Go.Proofs.YtbfpfgfgfjhpfaaGreatDoor
set_option maxRecDepth 100000
set_option maxHeartbeats 4000000
open Go.RowKit dP zW
section
variable {W0 w : World} {E : Nat → Addr} {l : PL}
structure Fill (W0:World)(E:Nat→Addr)(H:Nat→Nat)(K M I b:Nat)(w0 w:World)(G:List Nat)(l:PL)(i:Nat)(v:Value)(n:Nat)(xs:List Value):Prop where
 map:∃R,ku W0 E H K M I b G w R i [] 0∧∀k u,R k=some u↔(k,u)∈l.take i
 row:w.ownsRow w0.heap.size 76 3 v n xs
 apart:∀q∈v.ownBlock.toList,q∉G
 from_:∀q∈G,w0.heap.size≤q
 below:Below w0.heap.size w0 w
theorem Fill.step {H:Nat→Nat}{K M I b:Nat}{w0 w':World}{G:List Nat}{i n:Nat}{v:Value}{xs:List Value}{p:Nat×Nat}{R R':Nat→Option Nat}(h:Fill W0 E H K M I b w0 w G l i v n xs)(hp:l[i]?=some p)(hR:∀k u,R k=some u↔(k,u)∈l.take i)(hn:R p.1=none)(hR':R'=fun x=>if x=p.1 then some p.2 else R x)(hto:GV W0 E H K M I b G w w' R' (i+1) [] 0):∃G',Fill W0 E H K M I b w0 w' G' l (i+1) v n xs:=by
 obtain⟨G',h1,h2,h3⟩:=hto;have hsz:=h.below.size;have hlt:∀q∈v.ownBlock.toList,q<w.heap.size:=fun q hq=>(h.row.lt q (by simpa using hq)).2;refine⟨G',⟨R',h1,fun k u=> ?_⟩,PE h.row h3 h.apart,fun q hq hg=> ?_,fun q hq=> ?_,h.below.trans (h3.below (fun q hq=>h.from_ q hq) hsz)⟩
 ·rw[hR',List.take_add_one,hp];simp only[Option.toList_some,List.mem_append,List.mem_singleton];by_cases hk:k=p.1
  ·rw[if_pos hk];constructor
   ·intro e;refine .inr ?_;rw[←Option.some.inj e,hk]
   ·rintro(e|e)
    ·have:=(hR k u).2 e;rw[hk,hn]at this;cases this
    ·rw[←e]
  ·rw[if_neg hk,hR];constructor
   ·exact .inl
   ·rintro(e|e)
    ·exact e
    ·exact absurd (congrArg Prod.fst e) hk
 ·rcases h2 q hg with k|k
  ·exact h.apart q hq k
  ·have:=hlt q hq;omega
 ·rcases h2 q hq with k|k
  ·exact h.from_ q k
  ·omega
theorem XF (hE:Env W0 E w)(hW:kT w)(k m i:Int)(hcf:zm k m i=true)(K M I:Nat)(hkm:(1≤K∧K≤64)∧(1≤M∧M≤192)∧k=(K:Int)∧m=(M:Int)∧i=(I:Int))(Dg:1≤I∧I≤8){A:Option Addr}{c B:Nat}(hl:Reads w B 2 A l.length (l.flatMap aM))(hM:l.length≤M)(h64:∀p∈l,p.1<18446744073709551616∧p.2<18446744073709551616)(hnd:(l.map Prod.fst).Nodup)(kind:Nat)(hk:kind≤5):
  Calls Tryz.prog 11 #[kJ k m i,.slice A l.length c,.int .i64 (kind:Int)] w fun y w'=>∃b G,y= .returned (.tuple #[.pointer (some ⟨b,0,none⟩),.nilIface])∧(∃R,ku W0 E (fE kind) K M I b G w' R l.length [] 0∧∀k u,R k=some u↔(k,u)∈l)∧(∀q∈G,w.heap.size≤q)∧Below w.heap.size w w':=by
 have HH:=qd (fun(W:World) (hb:Below w.heap.size w W)=>QO (w:=W) (c:=c) (⟨hl.1,fun hn=>by
  obtain⟨b,off,h1,h2,h3⟩:=hl.2 hn
  exact⟨b,off,h1,h2,fun j u hu=>aA hb (h3 j u hu)⟩⟩:Reads W B 2 A l.length (l.flatMap aM)) (by omega) (fun p hp=>(h64 p hp).1) kind hk (hW.below hb))
 have HT:=qd (fun(W:World) (c:Nat) (A':Option Addr) (base:Nat) (ho:W.ownsRow base 76 3 (.slice A' l.length c) l.length ((l.map (pW kind)).flatMap aG))=>UK ho (by omega) hnd);have HN:=qd (fun(W:World) (hE:Env W0 E W)=>adi (fE kind) hE k m i hcf K M I hkm Dg)
 have afx:l.length≤192:=by omega
 have HE:=qd hE;have HX:=qd (And.intro h64 (And.intro hnd hM));clear hl hW hE hnd hcf hkm h64;unfold kJ at*;go_in;go_upto_region 1 with fail;refine bU (F:=fun v=>aj v w.heap.size 41 #[.int .i64 k,.int .i64 m,.int .i64 i]∧Below w.heap.size w v) ⟨aj.new w 41 #[.int .i64 k,.int .i64 m,.int .i64 i],(Below.refl w.heap.size w).alloc (Nat.le_refl _) _⟩ ?_;rintro w1 ⟨hB1,hb1⟩;obtain⟨bc,hbc⟩:∃bc,bc=w.heap.size:=⟨_,rfl⟩;have HB1:=qd hb1;have nD:=qd (show aj w1 bc 41 #[.int .i64 k,.int .i64 m,.int .i64 i]from by rw[hbc];exact hB1);rw[←hbc];have Xl:=qd hbc;have HH1:=qd (HH.out w1 hb1);clear hB1 hb1 hbc HH;go_wp2_with fail;refine HH1.out.mono ?_;rintro y w2 ⟨v',rfl,ho2,hb2⟩;obtain⟨A2,c2,rfl⟩:=aU ho2;have xX:=qd ho2;have oC:=qd (nD.out.below hb2 nD.out.lt);have HB2:=qd (HB1.out.trans (hb2.mono HB1.out.size));have HT2:=qd (HT.out w2 c2 A2 _ ho2);clear ho2 hb2 HH1 HT nD;go_wp2_with fail;refine HT2.out.mono ?_;rintro y w3 ⟨rfl,hb3⟩;have HO3:=qd (own_below xX.out hb3 (Nat.le_refl _));have yC:=oC.out.below hb3 oC.out.lt;have HB3:=qd (HB2.out.trans (hb3.mono HB2.out.size));obtain⟨x0,x1,x2⟩:=yC.c3;have HN3:=qd (HN.out w3 (HE.out.next HB3.out));clear hb3 yC HT2 oC HN;go_wp2_with fail;refine HN3.out.mono ?_;rintro y w4 ⟨b,G,rfl,hA4,hG4,hb4⟩
 have HF:=qd (show Fill W0 E (fE kind) K M I b w w4 G l 0 (.slice A2 l.length c2) l.length ((l.map (pW kind)).flatMap aG)from by
  have fO:=own_below HO3.out hb4 (Nat.le_refl _)
  exact⟨⟨_,hA4,fun k u=>by simp⟩,yL fO HB1.out.size,fun q hq hg=>by have:=(HO3.out.lt q (by simpa using hq)).2;have:=hG4 q hg;omega,fun q hq=>by have:=hG4 q hq;have:=HB3.out.size;omega,HB3.out.trans (hb4.mono HB3.out.size)⟩)
 clear hA4 hG4 hb4 HN3 HO3 xX HB3 x0 x1 x2;go_wp2;go_loopw [36] (fun v36 wr=>∃(j:Nat) (G:List Nat),j≤l.length∧v36= .int .i64 (j:Int)∧Hid (Fill W0 E (fE kind) K M I b w wr G l j (.slice A2 l.length c2) l.length ((l.map (pW kind)).flatMap aG))) (fun v36 _=>l.length-(intOf v36).toNat)
 case atStart=>exact⟨0,G,by omega,rfl,HF⟩
 case round=>
  clear HF;obtain⟨j,G,hj,rfl,HF⟩:=hrel;by_cases hlt:j<l.length
  ·have hlt':(j:Int)<(l.length:Int):=by omega
   have hj0:(0:Int)≤(j:Int):=by omega
   have hwj:IntKind.i64.wrap ((j:Int)+1)=((j+1:Nat):Int):=by rw[IntKind.wrap_i64];omega
   obtain⟨p,hp⟩:∃p,l[j]?=some p:=⟨_,List.getElem?_eq_getElem hlt⟩
   have hpe:(l.map (pW kind))[j]?=some (pW kind p):=by rw[List.getElem?_map,hp];rfl
   obtain⟨g,off,hA,hgl,hc⟩:=(Reads.eO HF.out.row).2 (by omega);have r0:wr.cell? ⟨g,off+j*3,none⟩=some (.int .u64 (p.1:Int)):=hc (j*3+0) _ (mJ hpe (by omega));have r1:wr.cell? ⟨g,off+j*3+1,none⟩=some (.int .u64 (p.2:Int)):=hc (j*3+1) _ (mJ hpe (by omega));have r2:wr.cell? ⟨g,off+j*3+2,none⟩=some (.int .u64 (fE kind p.1:Int)):=hc (j*3+2) _ (mJ hpe (by omega));have hpm:=List.mem_of_getElem? hp;have HP:=qd (And.intro hp (HX.out.1 p hpm));subst hA;clear hc hp hpe hpm;go_upto_region 12 with fail;refine bU (F:=fun v=>aj v wr.heap.size 76 #[.int .u64 (p.1:Int),.int .u64 (p.2:Int),.int .u64 (fE kind p.1:Int)]∧Below wr.heap.size wr v) ⟨aj.new wr 76 #[.int .u64 (p.1:Int),.int .u64 (p.2:Int),.int .u64 (fE kind p.1:Int)],(Below.refl wr.heap.size wr).alloc (Nat.le_refl _) _⟩ ?_;rintro w6 ⟨jI,hb6⟩
   have zu:=qd (show Fill W0 E (fE kind) K M I b w w6 G l j (.slice (some ⟨g,off,none⟩) l.length c2) l.length ((l.map (pW kind)).flatMap aG)from by
    obtain⟨⟨R,h1,h2⟩,h3,h4,h5,h6⟩:=HF.out
    exact⟨⟨R,h1.below hb6,h2⟩,own_below h3 hb6 (Nat.le_refl _),h4,h5,h6.trans (hb6.mono h6.size)⟩)
   obtain⟨bx,hbx⟩:∃bx,bx=wr.heap.size:=⟨_,rfl⟩;rw[←hbx]at jI⊢;obtain⟨x0,x1,x2⟩:=jI.c3;obtain⟨R,tV,hR2⟩:=zu.out.map
   have hnone:R p.1=none:=by
    cases hr:R p.1 with
    |none=>rfl
    |some u=>
     obtain⟨t1,t2,_,_⟩:=aaO HX.out.2.1 HP.out.1;have h1:=(hR2 p.1 u).1 hr;have h2:=(xI (HX.out.2.1.sublist ((List.take_sublist j l).map Prod.fst))).1 (p.1,u);have h3:=(gQ (iq _)).2 (h2.2 h1);rw[t2]at h3;cases h3
   have hroom:noRoom M (R p.1) j=false:=by rw[hnone];unfold noRoom;have:=HX.out.2.2;simp;omega
   have hpt:=Xo tV (pW kind p) ⟨rfl,J4 _ _,HP.out.2.1,HP.out.2.2⟩;rw[show(pW kind p).key=p.1 from rfl,show(pW kind p).val=p.2 from rfl,show(pW kind p).hash=fE kind p.1 from rfl,hroom,show yK M (R p.1) j=j+1 from by rw[hnone];unfold yK;have:=HX.out.2.2;rw[if_neg];simp;omega]at hpt;simp only[Bool.false_eq_true,if_false,Df]at hpt;have pz:=qd hpt;have HR:=qd (And.intro hR2 (And.intro hnone (show J2 M R j p.1 p.2=fun x=>if x=p.1 then some p.2 else R x from by unfold J2;rw[hroom];rfl)));clear hpt jI hb6 hbx tV hR2 hnone hroom HF r0 r1 r2;go_wp2_with fail;refine pz.out.mono ?_;rintro y w7 ⟨rfl,hto⟩;obtain⟨G7,Sm⟩:=zu.out.step HP.out.1 HR.out.1 HR.out.2.1 HR.out.2.2 hto;have LW:=qd Sm;have HM:=qd (show l.length-(j+1)<l.length-j by omega);clear hto Sm pz zu;go_wp2;go_roundw
   case measure=>simp[intOf];exact HM.out
   exact⟨j+1,G7,by omega,rfl,LW⟩
  ·obtain rfl:j=l.length:=by omega
   have hlt':¬(l.length:Int)<(l.length:Int):=by omega
   have HFin:=qd (show(∃R,ku W0 E (fE kind) K M I b G wr R l.length [] 0∧∀k u,R k=some u↔(k,u)∈l)∧(∀q∈G,w.heap.size≤q)∧Below w.heap.size w wr from by
    obtain⟨⟨R,h1,h2⟩,_,_,h5,h6⟩:=HF.out;rw[List.take_of_length_le (Nat.le_refl _)]at h2
    exact⟨⟨R,h1,h2⟩,h5,h6⟩)
   clear HF;go_wp2;refine bodyPost_ret (v:= .tuple #[.pointer (some ⟨b,0,none⟩),.nilIface]) (by simp[results,Tryz.results11,go_sem]) rfl (by first|exact⟨_,_,rfl,HFin.out⟩|exact⟨_,rfl,_,HFin.out⟩|exact⟨_,HFin.out⟩)
end
section
variable {W0 w : World} {E : Nat → Addr}
theorem LX (w:World)(t:TypeId)(l:PL)(cs:List Value)(hc:l.flatMap aM=cs)(hn:cs.length=l.length*2):Reads (w.alloc (.cells cs.toArray t)) (w.heap.size+1) 2 (some ⟨w.heap.size,0,none⟩) l.length (l.flatMap aM):=by
 subst hc;refine⟨hn,fun _=>⟨w.heap.size,0,rfl,Nat.lt_succ_self _,fun j u hu=> ?_⟩⟩;have h:=(aj.new w t (l.flatMap aM).toArray).cell j;rw[Nat.zero_add,h];simpa using hu
theorem PW (hE:Env W0 E w)(hW:kT w)(t:TypeId)(l:PL)(cs:List Value)(hc:l.flatMap aM=cs)(hn:cs.length=l.length*2)(h5:l.length≤5)(h64:∀p∈l,p.1<18446744073709551616∧p.2<18446744073709551616)(hnd:(l.map Prod.fst).Nodup){n:Nat}(hln:l.length=n):
  Calls Tryz.prog 11 #[.agg #[.int .i64 1,.int .i64 5,.int .i64 1],.slice (some ⟨w.heap.size,0,none⟩) n n,.int .i64 0] (w.alloc (.cells cs.toArray t)) fun y w'=>∃b G,y= .returned (.tuple #[.pointer (some ⟨b,0,none⟩),.nilIface])∧(∃R,ku W0 E (fE 0) 1 5 1 b G w' R n [] 0∧∀k u,R k=some u↔(k,u)∈l)∧(∀q∈G,w.heap.size≤q)∧Below w.heap.size w w':=by
 subst hln;have hb:=(Below.refl w.heap.size w).alloc (Nat.le_refl _) (.cells cs.toArray t);have h:=XF (c:=l.length) (hE.next hb) (hW.below hb) 1 5 1 (by decide) 1 5 1 (by omega) (by omega) (LX w t l cs hc hn) h5 h64 hnd 0 (by omega);unfold kJ at h;refine Calls.mono h ?_;rintro y w' ⟨b,G,h1,h2,h3,h4⟩;exact⟨b,G,h1,h2,fun q hq=>Nat.le_trans hb.size (h3 q hq),hb.trans (h4.mono hb.size)⟩
theorem abW (p:Int)(R:Nat→Option Nat)(es:List av)(k:Nat):qD p R es k=match tJ es k with
  |some v=>some (uM p (R k) v)
  |none=>R k:=by
 unfold qD tJ
 cases look es k<;>rfl
theorem adx {R Q:Nat→Option Nat}(hR:∀k u,R k=some u↔(k,u)∈[(1,2)])(hQ:∀k u,Q k=some u↔(k,u)∈[(1,5),(3,4)])(k:Nat):(match Q k with
  |some v=>some (uM 3 (R k) v)
  |none=>R k)=aS [(1,7),(3,4)] k:=by
 by_cases h1:k=1
 ·subst h1;rw[(hQ 1 5).2 (by decide),(hR 1 2).2 (by decide)];rfl
 ·have hr:R k=none:=by
   cases h:R k with
   |none=>rfl
   |some u=>
    have:=(hR k u).1 h;simp only[List.mem_singleton,Prod.mk.injEq]at this;exact absurd this.1 h1
  by_cases h3:k=3
  ·subst h3;rw[(hQ 3 4).2 (by decide),hr];rfl
  ·have hq:Q k=none:=by
    cases h:Q k with
    |none=>rfl
    |some u=>
     have:=(hQ k u).1 h;simp only[List.mem_cons,List.not_mem_nil,or_false,Prod.mk.injEq]at this;rcases this with h|h
     ·exact absurd h.1 h1
     ·exact absurd h.1 h3
   rw[hq,hr];symm;rw[iX];intro p hp;simp only[List.mem_cons,List.not_mem_nil,or_false]at hp;rcases hp with rfl|rfl
   ·exact fun e=>h1 e.symm
   ·exact fun e=>h3 e.symm
theorem ad2:eY [(1,7),(3,4)]:=by unfold eY;simp
theorem QS (hE:Env W0 E w)(h6:gN E W0 6)(hW:kT w)(Ak:mg w)(hb0:W0.heap.size≤w.heap.size):
  Calls Tryz.prog 4 #[] w fun y w'=>y= .returned (.bool true)∧Below w.heap.size w w':=by
 go_in;go_upto_region 2 with fail;refine bU (F:=fun v=>aj v w.heap.size 41 #[.int .i64 1,.int .i64 5,.int .i64 1]∧Below w.heap.size w v) ⟨aj.new w 41 #[.int .i64 1,.int .i64 5,.int .i64 1],(Below.refl w.heap.size w).alloc (Nat.le_refl _) _⟩ ?_;rintro w1 ⟨hB1,hb1⟩;obtain⟨bc,hbc⟩:∃bc,bc=w.heap.size:=⟨_,rfl⟩;rw[←hbc]at hB1⊢;obtain⟨x0,x1,x2⟩:=hB1.c3;have nD:=qd hB1;have HB1:=qd hb1;have HE:=qd (And.intro hE (And.intro h6 (And.intro hW (And.intro Ak hb0))));have R8:=qd (PW (hE.next hb1) (hW.below hb1) 37 [(1,2)] [.int .u64 1,.int .u64 2] rfl rfl (by decide) (by decide) (by decide) (n:=1) rfl);clear hB1 hb1 hbc hE h6 hW Ak hb0;go_wp2_with fail;refine R8.out.mono ?_;rintro y w2 ⟨db,G,rfl,⟨R,hA,hR⟩,hG,hb2⟩;have HB2:=qd (HB1.out.trans (hb2.mono HB1.out.size));have hC2:=nD.out.below hb2 nD.out.lt;clear x0 x1 x2;obtain⟨x0,x1,x2⟩:=hC2.c3;have HA:=qd (And.intro hA (And.intro hR (show∀q∈G,w.heap.size≤q from fun q hq=>Nat.le_trans HB1.out.size (hG q hq))));have HL2:=qd (PW (HE.out.1.next HB2.out) (HE.out.2.2.1.below HB2.out) 37 [(1,5),(3,4)] [.int .u64 1,.int .u64 5,.int .u64 3,.int .u64 4] rfl rfl (by decide) (by decide) (by decide) (n:=2) rfl);clear hA hR hG hb2 hC2 R8 nD;go_wp2_with fail;refine HL2.out.mono ?_;rintro y w3 ⟨sb,F,rfl,⟨R2,hA2,hR2⟩,hF,hb3⟩;have HB3:=qd (HB2.out.trans (hb3.mono HB2.out.size));obtain⟨a,ids,dK,hS,hfn,hln⟩:=hA2
 have hap:∀q∈G,q∉F:=fun q hq hf=>by
  have h1:=(HA.out.1.fH q hq).1;have h2:=hF q hf;omega
 have HFn:=qd (And.intro (show∀k u,tJ a.ents k=some u↔(k,u)∈[(1,5),(3,4)]from by rw[hfn];exact hR2) hln);have HN:=qd (XE (w0:=w) (p:=3) (HA.out.1.below hb3) hS hap (fun q hq=>hq.elim (HA.out.2.2 q) (fun k=>Nat.le_trans HB2.out.size (hF q k))) HB3.out HE.out.2.2.2.2 (by decide) (by decide) (by decide) (HE.out.2.2.1.below HB3.out) (HE.out.2.2.2.1.below HB3.out));clear hS hfn hln hap hR2 hF hb3 HL2 x0 x1 x2;go_wp2_with fail;refine HN.out.mono ?_;rintro y w4 ⟨mb,cb,F',rfl,hM⟩
 have hRl:∀k o,R k=some o→o<18446744073709551616:=fun k o h=>by
  have:=(HA.out.2.1 k o).1 h;simp only[List.mem_singleton,Prod.mk.injEq]at this;omega
 have Sk:=qd (XC hM (by decide) (by decide) HE.out.2.1 hRl (by rw[HFn.out.2];decide));clear hM hRl HN;go_wp2_with fail;refine Sk.out.mono ?_;rintro y w5 ⟨rfl,G5,F5,agL,n5,z5,h5⟩;have fZ:=qd (abO h5.dst (Nat.le_refl 1) (Nat.zero_le _) HE.out.2.1);have H5:=qd (And.intro h5.fG h5.below);clear h5 Sk;go_wp2_with fail;refine fZ.out.mono ?_;rintro y w6 ⟨v,l,G6,rfl,hasc,hget,FH,aeV,hA6,hs6,mY⟩
 obtain rfl:l=[(1,7),(3,4)]:=Bb hasc ad2 fun k=>by
  rw[hget,abW];exact adx HA.out.2.1 HFn.out.1 k
 obtain⟨A,c,rfl⟩:=aU FH;have PU:=qd (Reads.eO FH);have pV:=qd (H5.out.2.trans (mY.below H5.out.1 H5.out.2.size));have hsm:=abk (c:=c) (c':=2) (PU.out.below ((Below.refl w6.heap.size w6).alloc (Nat.le_refl _) (.cells #[.int .u64 1,.int .u64 7,.int .u64 3,.int .u64 4] 37))) (LX w6 37 [(1,7),(3,4)] [.int .u64 1,.int .u64 7,.int .u64 3,.int .u64 4] rfl rfl) (by decide);rw[decide_eq_true (rfl: [(1,7),(3,4)]=[(1,7),(3,4)])]at hsm;have V6:=qd hsm;clear hsm hasc hget FH aeV hA6 hs6 mY fZ H5;go_wp2_with fail;refine V6.out.mono ?_;rintro y w7 ⟨rfl,mZ⟩;have zw:=qd (pV.out.trans ((((Below.refl w6.heap.size w6).alloc (Nat.le_refl _) _).trans (mZ.mono (by simp))).mono pV.out.size));clear mZ V6;go_wp2;go_ret;exact⟨rfl,zw.out⟩
end
section
variable {l : PL} {M c fb j key : Nat} {q : Nat × Nat} {w : World} {A : Option Addr}
def kC (q:Nat×Nat):Value:= .int .u64 (q.1:Int)
def vC (q:Nat×Nat):Value:= .int .u64 (q.2:Int)
def ad3 (l:PL)(key:Nat)(y:Int):Prop:=(∃(i:Nat) (q:Nat×Nat),l[i]?=some q∧q.1=key∧y=(i:Int)∧∀k,k<i→∀q',l[k]?=some q'→q'.1≠key)∨((∀q∈l,q.1≠key)∧y= -1)
theorem abX {i:Nat}(h:l[i]?=some q)(hk:q.1=key)(hn:∀k,k<i→∀q',l[k]?=some q'→q'.1≠key):aS l key=some q.2:=by
 induction l generalizing i with
 |nil=>cases h
 |cons x l ih=>
  cases i with
  |zero=>
   obtain rfl:x=q:=by simpa using h
   unfold aS;rw[List.find?_cons_of_pos (by simpa using hk)];rfl
  |succ i=>
   have hx:x.1≠key:=hn 0 (by omega) x rfl;have:=ih (i:=i) (by simpa using h) (fun k hk' q' h'=>hn (k+1) (by omega) q' (by simpa using h'));unfold aS at this⊢;rw[List.find?_cons_of_neg (by simpa using hx)];exact this
theorem Jl {B:Nat}{f:Nat×Nat→Value}(hR:Reads w B 1 A l.length (l.map f))(hj:l[j]?=some q):∃g off,A=some ⟨g,off,none⟩∧g<B∧w.cell? ⟨g,off+j,none⟩=some (f q):=by
 have hjl:=(List.getElem?_eq_some_iff.1 hj).1;obtain⟨g,off,h1,h2,h3⟩:=hR.2 (by omega);exact⟨g,off,h1,h2,h3 j _ (by rw[List.getElem?_map,hj];rfl)⟩
theorem UO {e:Nat×Nat}(h:∀k,k<j→∀e',l[k]?=some e'→e'.1≠key)(hj:l[j]?=some e)(he:e.1≠key):∀k,k<j+1→∀e',l[k]?=some e'→e'.1≠key:=fun k hk e' h'=>by
 rcases Nat.lt_or_ge k j with h1|h1
 ·exact h k h1 e' h'
 ·obtain rfl:k=j:=by omega
  rw[hj]at h';cases h';exact he
theorem XG (h:∀k,k<j→∀e',l[k]?=some e'→e'.1≠key)(hj:j=l.length):∀e∈l,e.1≠key:=fun e he=>by
 obtain⟨i,hi⟩:=List.getElem?_of_mem he;exact h i (by rw[hj];exact(List.getElem?_eq_some_iff.1 hi).1) e hi
theorem QT {m:Nat}(h:j<m):m-(intOf (.int .i64 ((j:Int)+1))).toNat<m-(intOf (.int .i64 (j:Int))).toNat:=by
 show m-((j:Int)+1).toNat<m-(j:Int).toNat;omega
theorem ES {u:Value}(hB:aj w fb 57 #[.int .i64 (M:Int),.slice A l.length c,u])(hR:Reads w w.heap.size 1 A l.length (l.map kC))(h9:l.length≤1000)(key:Nat):
  Calls Tryz.prog 38 #[.pointer (some ⟨fb,0,none⟩),.int .u64 (key:Int)] w fun e w'=>∃y,e= .returned (.int .i64 y)∧ad3 l key y∧w=w':=by
 have c1:=hB.cell 1;simp only[gl]at c1;obtain⟨n,hn⟩:∃n,n=l.length:=⟨_,rfl⟩;rw[←hn]at c1 h9;have HR:=qd hR;have HN:=qd hn;clear hB hR hn;go_in;go_wp2;go_loopw [5,6,12] (fun _ _ v12 wr=>wr=w∧∃j:Nat,j≤n∧v12= .int .i64 (j:Int)∧Hid (∀k,k<j→∀e',l[k]?=some e'→e'.1≠key)) (fun _ _ v12 _=>n-(intOf v12).toNat)
 case atStart=>exact⟨rfl,0,by omega,rfl,qd (fun k hk=>absurd hk (by omega))⟩
 case round=>
  obtain⟨rfl,j,hj,rfl,Lh⟩:=hrel;by_cases hlt:j<n
  ·have hlt':(j:Int)<(n:Int):=by omega
   have hj0:(0:Int)≤(j:Int):=by omega
   obtain⟨e,he⟩:∃e,l[j]?=some e:=⟨_,List.getElem?_eq_getElem (by have:=HN.out;omega)⟩;obtain⟨g,off,hA,hg,r0⟩:=Jl HR.out he;unfold kC at r0;have HE:=qd he;subst hA;clear he hg;have HJ:=qd (Nat.succ_le_of_lt hlt);have Cy:=qd (QT hlt);by_cases hk:e.1=key
   ·have hk':(e.1:Int)=(key:Int):=by omega
    go_wp2;go_ret;exact⟨_,rfl,.inl ⟨j,e,HE.out,hk,rfl,Lh.out⟩,rfl⟩
   ·have hk':¬(e.1:Int)=(key:Int):=by omega
    have Xy:=qd (UO Lh.out HE.out hk);go_wp2;go_roundw
    all_goals first|exact⟨trivial,j+1,HJ.out,rfl,Xy⟩|exact⟨rfl,j+1,HJ.out,rfl,Xy⟩|exact Cy.out
  ·obtain rfl:j=n:=by omega
   have hlt':¬(j:Int)<(j:Int):=by omega
   have aeW:=qd (XG Lh.out HN.out);go_wp2;go_ret;exact⟨_,rfl,.inr ⟨aeW.out,rfl⟩,rfl⟩
theorem ady {d:Nat}{B:Option Addr}(hB:aj w fb 57 #[.int .i64 (M:Int),.slice A l.length c,.slice B l.length d])(hR:Reads w w.heap.size 1 A l.length (l.map kC))(hV:Reads w w.heap.size 1 B l.length (l.map vC))(h9:l.length≤1000)(key:Nat):
  Calls Tryz.prog 23 #[.pointer (some ⟨fb,0,none⟩),.int .u64 (key:Int)] w fun e w'=>e= .returned (.tuple #[.int .u64 (((aS l key).getD 0:Nat):Int),.bool (aS l key).isSome])∧w=w':=by
 have HF:=qd (ES hB hR h9 key);have c2:=hB.cell 2;simp only[gl]at c2;have HV:=qd hV;clear hB hR hV;go_in;go_wp2_with fail;refine HF.out.mono ?_;rintro x wq ⟨y,rfl,hfp,rfl⟩;clear HF;rcases hfp with⟨i,q,hi,hk,rfl,hno⟩|⟨hno,rfl⟩
 ·have HG:=qd (abX hi hk hno);obtain⟨g,off,hA,hg,r0⟩:=Jl HV.out hi;unfold vC at r0
  have hil:(i:Int)<(l.length:Int):=by have:=(List.getElem?_eq_some_iff.1 hi).1;omega
  have hi0:(0:Int)≤(i:Int):=by omega
  subst hA;clear hi hk hno hg h9;generalize l.length=n at*;go_wp2;refine bodyPost_ret (v:= .tuple #[.int .u64 (q.2:Int),.bool true]) (by simp[results,Tryz.results23,go_sem]) rfl ⟨by rw[HG.out];rfl,rfl⟩
 ·have HG:=qd (iX.2 hno);clear hno h9;go_wp2;refine bodyPost_ret (v:= .tuple #[.int .u64 0,.bool false]) (by simp[results,Tryz.results23,go_sem]) rfl ⟨by rw[HG.out];rfl,rfl⟩
end
section
section
variable {P : Program} {ops : Array Oper} {Q : Exit → Act → World → Prop} {md : Region.Mode} {S : World → Prop} {late : List Nat} {f : Nat} {listed : Array Bool} {a : Act} {w : World}
def adz (P:Program)(md:Region.Mode)(ops:Array Oper)(Q:Exit→Act→World→Prop)(S:World→Prop)(late:List Nat)(f:Nat)(listed:Array Bool)(a:Act)(w:World)(i:Nat):Prop:=
 ∃o,ops[i]?=some o∧∀K:Act→World→Prop,RowKit.Hid (∀a' w',(i∉late→S w')→bH P md ops Q S late f (listed.setIfInBounds i true) a' w'→K a' w')→if Region.wanted o (yielded ops a.tmps)=true then o.wp P a w K Q else K (a.put o.dst undef) w
def PX (P:Program)(md:Region.Mode)(ops:Array Oper)(Q:Exit→Act→World→Prop)(S:World→Prop)(late:List Nat)(f:Nat)(listed:Array Bool)(a:Act)(w:World):List Nat→Prop
 | []=>True
 |i::l=>adz P md ops Q S late f listed a w i∧PX P md ops Q S late f listed a w l
theorem PX.XH:∀{l:List Nat},PX P md ops Q S late f listed a w l→∀i∈l,adz P md ops Q S late f listed a w i
 | [],_,_,h=>absurd h List.not_mem_nil
 |j::l,h,i,hi=>by
  rcases List.mem_cons.1 hi with rfl|hi
  ·exact h.1
  ·exact PX.XH h.2 i hi
theorem eU {is:List Nat}(hr:Region.ready md ops listed=is)(hne:is≠[])(h:PX P md ops Q S late f listed a w is):bH P md ops Q S late (f+1) listed a w:=by
 refine⟨fun h0=>absurd (hr.symm.trans h0) hne,fun k hk=> ?_⟩;obtain⟨x,hx,h⟩:=h.XH k (by rw[←hr];exact hk);have hun:listed.getD k true=false:=(mem_ready.1 hk).1;unfold wpOp;simp only[hx]
 have:=h (fun a' w'=>(Early late (listed.setIfInBounds k true)→S w')∧bH P md ops Q S late f (listed.setIfInBounds k true) a' w') (qd fun a' w' h1 h2=>⟨fun hE=>by
  by_cases hkn:k∈late
  ·have h3:=hE k hkn
   have hlt:k<listed.size:=by
    rcases Nat.lt_or_ge k listed.size with h'|h'
    ·exact h'
    ·simp[Array.getElem?_eq_none h']at hun
   simp[hlt]at h3
  ·exact h1 hkn,h2⟩)
 split
 ·next hw=>rw[if_pos hw]at this;exact .inl this
 ·next hw=>rw[if_neg hw]at this;exact this
theorem aaT {f0:Nat}{L0:Array Bool}{a0:Act}{v0:World}(h:∀W:Nat→Array Bool→Act→World→Prop,W=(fun f L a v=>bH P md ops Q S late f L a v)→W f0 L0 a0 v0):bH P md ops Q S late f0 L0 a0 v0:=h _ rfl
end
structure Rw where
 v:Value
 n:Nat
 xs:List Value
structure bB (b t sz:Nat)(v0 v:World)(rs:List (Option Rw)):Prop where
 below:Below b v0 v
 base:b≤v0.heap.size
 own:∀(i:Nat) (r:Rw),rs[i]?=some (some r)→v.ownsRow b t sz r.v r.n r.xs
 apart:∀(i j:Nat) (r s:Rw),i≠j→rs[i]?=some (some r)→rs[j]?=some (some s)→r.v.ownBlock=none∨r.v.ownBlock≠s.v.ownBlock
section
variable {b t sz : Nat} {v0 v w' : World} {rs : List (Option Rw)}
theorem Eu {i j:Nat}{x:Option Rw}{r:Rw}(h:(rs.set i x)[j]?=some (some r)):(j=i∧x=some r)∨(j≠i∧rs[j]?=some (some r)):=by
 by_cases hj:j=i
 ·subst hj;rw[List.getElem?_set_self']at h
  cases h1:rs[j]? with
  |none=>rw[h1]at h;cases h
  |some y=>rw[h1]at h;exact .inl ⟨rfl,Option.some.inj h⟩
 ·rw[List.getElem?_set_ne (fun h=>hj h.symm)]at h;exact .inr ⟨hj,h⟩
theorem ET {n:Nat}{u:Value}{xs:List Value}{q:Nat}(h:v.ownsRow b t sz u n xs)(hq:u.ownBlock=some q):b≤q∧q<v.heap.size:=by
 rcases h.2 with⟨rfl,_⟩|⟨g,cap,cur,rfl,h1,h2,_⟩
 ·cases hq
 ·obtain rfl:g=q:=by simpa[Value.ownBlock]using hq
  exact⟨h1,(Array.getElem?_eq_some_iff.1 h2).1⟩
theorem bB.drop (h:bB b t sz v0 v rs)(j:Nat):bB b t sz v0 v (rs.set j none):=by
 have hx:∀(i:Nat) (r:Rw),(rs.set j none)[i]?=some (some r)→rs[i]?=some (some r):=fun i r hi=>by
  rcases Eu hi with⟨_,h1⟩|⟨_,h1⟩
  ·cases h1
  ·exact h1
 exact⟨h.below,h.base,fun i r hi=>h.own i r (hx i r hi),fun i j r s hij hi hj=>h.apart i j r s hij (hx i r hi) (hx j s hj)⟩
theorem bB.put (h:bB b t sz v0 v rs)(i:Nat)(hb:Below b v0 w')(r':Rw)(hr:w'.ownsRow b t sz r'.v r'.n r'.xs)(hk:∀(j:Nat) (r:Rw),j≠i→rs[j]?=some (some r)→w'.ownsRow b t sz r.v r.n r.xs∧(r.v.ownBlock=none∨r.v.ownBlock≠r'.v.ownBlock)):bB b t sz v0 w' (rs.set i (some r')):=by
 refine⟨hb,h.base,fun j r hj=> ?_,fun j k r s hjk hj hk'=> ?_⟩
 ·rcases Eu hj with⟨_,h1⟩|⟨h1,h2⟩
  ·obtain rfl:=Option.some.inj h1;exact hr
  ·exact(hk j r h1 h2).1
 ·rcases Eu hj with⟨h1,h2⟩|⟨h1,h2⟩
  ·rcases Eu hk' with⟨h3,h4⟩|⟨h3,h4⟩
   ·exact absurd (h1.trans h3.symm) hjk
   ·obtain rfl:=Option.some.inj h2;rcases(hk k s h3 h4).2 with h5|h5
    ·cases hrb:r'.v.ownBlock with
     |none=>exact .inl rfl
     |some q=>exact .inr (by rw[h5];simp)
    ·exact .inr (fun e=>h5 e.symm)
  ·rcases Eu hk' with⟨h3,h4⟩|⟨h3,h4⟩
   ·obtain rfl:=Option.some.inj h4;exact(hk j r h1 h2).2
   ·exact h.apart j k r s hjk h2 h4
theorem bB.new (h:bB b t sz v0 v rs)(i:Nat)(cs:Array Value)(m:Nat)(hm:cs.size=m*sz)(hl:m≤maxLen):bB b t sz v0 (v.alloc (.cells cs t)) (rs.set i (some ⟨.slice (some ⟨v.heap.size,0,none⟩) m m,m,cs.toList⟩)):=by
 have hbv:b≤v.heap.size:=Nat.le_trans h.base h.below.size;refine h.put i (h.below.trans ((Below.refl b v).alloc hbv _)) _ ⟨by simpa using hm,.inr ⟨v.heap.size,m,cs,rfl,hbv,heap_alloc_new v _,Nat.le_refl _,hl,hm,by rw[←hm];exact List.take_of_length_le (by simp)⟩⟩ fun j r hj hr=> ?_;refine⟨(h.own j r hr).alloc _, ?_⟩
 cases hq:r.v.ownBlock with
 |none=>exact .inl rfl
 |some q=>
  have:=(ET (h.own j r hr) hq).2;exact .inr (by simp[Value.ownBlock];omega)
theorem bB.grow (h:bB b t sz v0 v rs)(i:Nat){r:Rw}(hi:rs[i]?=some (some r)){v':Value}{n':Nat}{ys:List Value}(hg:oP v b r.v w' v')(ho:w'.ownsRow b t sz v' n' ys):bB b t sz v0 w' (rs.set i (some ⟨v',n',ys⟩)):=by
 refine h.put i (h.below.trans hg.below) _ ho fun j s hj hs=>⟨hg.keep (h.own j s hs) (h.apart j i s r hj hs hi), ?_⟩;rcases hg.at_ with h1|⟨g,h1,h2⟩
 ·rw[h1];exact h.apart j i s r hj hs hi
 ·rw[h1]
  cases hq:s.v.ownBlock with
  |none=>exact .inl rfl
  |some q=>
   have:=(ET (h.own j s hs) hq).2;exact .inr (by simp;omega)
theorem bB.reads (h:bB b t sz v0 v rs)(i:Nat){r:Rw}(hi:rs[i]?=some (some r)){A:Option Addr}{m c:Nat}(hv:r.v= .slice A m c):Reads v v.heap.size sz A m r.xs:=by
 obtain⟨x,n,xs⟩:=r;simp only at hv;subst hv;have h1:v.ownsRow b t sz (.slice A m c) n xs:=h.own i _ hi;obtain⟨A',c',e⟩:=aU h1;cases e;exact Reads.eO h1
end
end
end Go.Proofs.YtbfpfgfgfjhpfaaGreatDoor
