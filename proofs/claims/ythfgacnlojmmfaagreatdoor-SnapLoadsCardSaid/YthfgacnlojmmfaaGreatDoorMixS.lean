/- Package snap: Hashed and Load in general. No statement of the claim. -/
import Derived.Test.YthfgacnlojmmfaaGreatDoorSnG
import Derived.Test.YthfgacnlojmmfaaGreatDoorLaneP
import Derived.BigQuiet
import Derived.Test.YthfgacnlojmmfaaGreatDoorCoN
import Derived.Laws.Bits64
import Derived.Laws.Bits64b
import Derived.Test.YthfgacnlojmmfaaGreatDoorCoR
import Derived.Test.YthfgacnlojmmfaaGreatDoorCoAB
import Derived.Deep.MidRow
namespace Go.Proofs.YthfgacnlojmmfaaGreatDoor
set_option maxRecDepth 100000
set_option maxHeartbeats 4000000
open Go.RowKit AmC AmL Go
section
variable {E : Nat → Addr} {W0 w : World}
def loadE (k m i:Int)(l:PL):Nat:=if(l.map Prod.fst).Nodup then(if cfgOk k m i=true then(if m<(l.length:Int)then 2 else 0)else 1)else 16
theorem cfg_natS {k m i:Int}(h:cfgOk k m i=true):((1≤k.toNat∧k.toNat≤64)∧(1≤m.toNat∧m.toNat≤192)∧k=(k.toNat:Int)∧m=(m.toNat:Int)∧i=(i.toNat:Int))∧(1≤i.toNat∧i.toNat≤8):=by
 unfold cfgOk inB at h;simp at h;omega
theorem mix_Word_bad (k:Int)(hk:k<0∨5<k)(w:World):Calls Tryz.prog 26 #[.int .i64 k] w fun y w'=>y= .returned (.string ⟨#[]⟩)∧w=w':=by
 by_cases h1:k<0
 ·clear hk;go_in;go_wp2;go_ret;exact⟨rfl,rfl⟩
 ·have h2:5<k:=by omega
  clear hk;go_in;go_wp2;go_ret;exact⟨rfl,rfl⟩
theorem snap_Hashed_bad (h14:ErrAt E w 14)(A:Option Addr)(n c:Nat)(k:Int)(hk:k<0∨5<k):Calls Tryz.prog 11 #[.slice A n c,.int .i64 k] w fun y w'=>y= .returned (.tuple #[.slice none 0 0,errV E 14])∧Below w.heap.size w w':=by
 have HW:=qd (mix_Word_bad k hk w);have her:=h14;unfold ErrAt gE at her;simp only at her;clear h14 hk;go_in;go_wp2_with fail;refine HW.out.mono ?_;rintro y wq ⟨rfl,rfl⟩;go_wp2;go_quiet (fail);go_wp2;go_ret2;exact⟨rfl,below_drewN (Below.refl _ _) _⟩
theorem snap_Load_kind (hE:Env W0 E w)(h14:ErrAt E W0 14)(k m i:Int)(A:Option Addr)(n c:Nat)(kind:Int)(hk:kind<0∨5<kind):
  Calls Tryz.prog 5 #[cfgV k m i,.slice A n c,.int .i64 kind] w fun y w'=>y= .returned (.tuple #[.pointer none,errV E 14])∧Below w.heap.size w w':=by
 have HH:=qd (fun(W:World) (hb:Below w.heap.size w W)=>snap_Hashed_bad ((h14.below hE.below (Nat.le_refl _)).below hb (Nat.le_refl _)) A n c kind hk);have hB:=(Below.refl w.heap.size w).alloc (Nat.le_refl _) (.cells #[.int .i64 k,.int .i64 m,.int .i64 i] 23);have HB:=qd hB;unfold cfgV;clear hB hE h14 hk;go_in;go_upto_region 1 with fail;have HH1:=qd (HH.out _ HB.out);rw[errV_pos E (by omega:1≤14)]at HH1;go_wp2_with fail;refine HH1.out.mono ?_;rintro y wq ⟨rfl,hbq⟩;have HBq:=qd (HB.out.trans (hbq.mono HB.out.size));clear hbq;go_wp2;refine bodyPost_ret (v:= .tuple #[.pointer none,.iface 346 (.pointer (some (E 14)))]) (by simp[results,Tryz.results5,go_sem]) rfl ⟨by rw[errV_pos E (by omega:1≤14)],HBq.out⟩
theorem snap_LoadG (hE:Env W0 E w)(hW:MixWords w)(h16:ErrAt E W0 16)(k m i:Int){l:PL}{A:Option Addr}{c B:Nat}(hl:Reads w B 2 A l.length (l.flatMap pairC))(hM:l.length≤200)(h64:∀p∈l,p.1<18446744073709551616∧p.2<18446744073709551616)(kind:Nat)(hk:kind≤5):
  Calls Tryz.prog 5 #[cfgV k m i,.slice A l.length c,.int .i64 (kind:Int)] w fun y w'=>((loadE k m i l≠0∧y= .returned (.tuple #[.pointer none,errV E (loadE k m i l)]))∨(loadE k m i l=0∧cfgOk k m i=true∧(l.map Prod.fst).Nodup∧∃b G,y= .returned (.tuple #[.pointer (some ⟨b,0,none⟩),.nilIface])∧(∃R,MpAt W0 E (mixH kind) k.toNat m.toNat i.toNat b G w' R l.length [] 0∧∀k u,R k=some u↔(k,u)∈l)∧(∀q∈G,w.heap.size≤q)))∧Below w.heap.size w w':=by
 have HH:=qd (fun(W:World) (hb:Below w.heap.size w W)=>snap_Hashed (w:=W) (c:=c) (⟨hl.1,fun hn=>by
  obtain⟨b,off,h1,h2,h3⟩:=hl.2 hn
  exact⟨b,off,h1,h2,fun j u hu=>cell_in hb (h3 j u hu)⟩⟩:Reads W B 2 A l.length (l.flatMap pairC)) (by omega) (fun p hp=>(h64 p hp).1) kind hk (hW.below hb))
 have HT:=qd (fun(W:World) (c:Nat) (A':Option Addr) (base:Nat) (ho:W.ownsRow base 45 3 (.slice A' l.length c) l.length ((l.map (entM kind)).flatMap entCells))=>snap_twiceG ho (by omega));have hl192:l.length≤200:=hM;obtain⟨K,hK⟩:∃K,K=k.toNat:=⟨_,rfl⟩;obtain⟨M,hMm⟩:∃M,M=m.toNat:=⟨_,rfl⟩;obtain⟨I,hI⟩:∃I,I=i.toNat:=⟨_,rfl⟩;obtain⟨ld,hld⟩:∃ld,ld=loadE k m i l:=⟨_,rfl⟩;have HLd:=qd hld;have HN0:=qd (fun(W:World) (hE:Env W0 E W) (hc:cfgOk k m i=false)=>rt_New_bad hE k m i hc);have HN:=qd (fun(W:World) (hE:Env W0 E W) (hc:cfgOk k m i=true)=>show Calls Tryz.prog 17 #[cfgV k m i] W (fun y w'=>∃b G,y= .returned (.tuple #[.pointer (some ⟨b,0,none⟩),.nilIface])∧MpAt W0 E (mixH kind) K M I b G w' (fun _=>none) 0 [] 0∧(∀q∈G,W.heap.size≤q)∧Below W.heap.size W w')from by rw[hK,hMm,hI];exact mp_New (mixH kind) hE k m i hc _ _ _ (cfg_natS hc).1 (cfg_natS hc).2);rw[←hK,←hMm,←hI,←hld];have HMm:=qd (fun(hc:cfgOk k m i=true)=>show m=(M:Int)from by rw[hMm];exact(cfg_natS hc).1.2.2.2.1);have HE:=qd hE;have HX:=qd (And.intro h64 h16);clear hl hW hE h64 h16 hK hMm hI hld;unfold cfgV at*;go_in;go_upto_region 1 with fail;refine nameW (F:=fun v=>Blk v w.heap.size 23 #[.int .i64 k,.int .i64 m,.int .i64 i]∧Below w.heap.size w v) ⟨Blk.new w 23 #[.int .i64 k,.int .i64 m,.int .i64 i],(Below.refl w.heap.size w).alloc (Nat.le_refl _) _⟩ ?_;rintro w1 ⟨hB1,hb1⟩;obtain⟨bc,hbc⟩:∃bc,bc=w.heap.size:=⟨_,rfl⟩;have HB1:=qd hb1
 have HC1:=qd (show Blk w1 bc 23 #[.int .i64 k,.int .i64 m,.int .i64 i]from by rw[hbc];exact hB1);rw[←hbc];have HBc:=qd hbc;have HH1:=qd (HH.out w1 hb1);clear hB1 hb1 hbc HH;go_wp2_with fail;refine HH1.out.mono ?_;rintro y w2 ⟨v',rfl,ho2,hb2⟩;obtain⟨A2,c2,rfl⟩:=own_form ho2;have HO2:=qd ho2;have HC2:=qd (HC1.out.below hb2 HC1.out.lt);have HB2:=qd (HB1.out.trans (hb2.mono HB1.out.size));have HT2:=qd (HT.out w2 c2 A2 _ ho2);clear ho2 hb2 HH1 HT HC1;go_wp2_with fail;refine HT2.out.mono ?_;rintro y w3 ⟨rfl,hb3⟩;have HO3:=qd (own_below HO2.out hb3 (Nat.le_refl _));have hC3:=HC2.out.below hb3 HC2.out.lt;have HB3:=qd (HB2.out.trans (hb3.mono HB2.out.size));obtain⟨x0,x1,x2⟩:=hC3.c3;by_cases hnd:(l.map Prod.fst).Nodup
 case neg=>
  have her:=(HX.out.2.below HE.out.below (Nat.le_refl _)).below HB3.out (Nat.le_refl _);unfold ErrAt gE at her;simp only at her;have HLz:=qd (show ld=16 from by rw[HLd.out];unfold loadE;rw[if_neg hnd]);rw[decide_eq_false hnd];clear hb3 hC3 HT2 HC2 HN HO3 HO2 hnd x0 x1 x2;go_wp2;go_quiet (fail);go_wp2;go_ret2;exact⟨.inl ⟨by rw[HLz.out];decide,by rw[HLz.out];rfl⟩,below_drewN HB3.out _⟩
 rw[decide_eq_true hnd]
 cases hcf:cfgOk k m i with
 |false=>
  have HN3:=qd (HN0.out w3 (HE.out.next HB3.out) hcf);have HLz:=qd (show ld=1 from by rw[HLd.out];unfold loadE;rw[if_pos hnd,if_neg (by rw[hcf];decide)]);rw[errV_pos E (by omega:1≤1)]at HN3;clear hb3 hC3 HT2 HC2 HN HN0 HO3 HO2 hnd hcf;go_wp2_with fail;refine HN3.out.mono ?_;rintro y w4 ⟨rfl,hb4⟩;have HB4:=qd (HB3.out.trans (hb4.mono HB3.out.size));clear hb4 HN3 HB3 x0 x1 x2;go_wp2;refine bodyPost_ret (v:= .tuple #[.pointer none,.iface 346 (.pointer (some (E 1)))]) (by simp[results,Tryz.results5,go_sem]) rfl ⟨.inl ⟨by rw[HLz.out];decide,by rw[HLz.out,errV_pos E (by omega:1≤1)]⟩,HB4.out⟩
 |true=>
 have HND:=qd hnd;have HCF:=qd hcf;have HLg:=qd (show ld=if(M:Int)<(l.length:Int)then 2 else 0 from by rw[HLd.out];unfold loadE;rw[if_pos hnd,if_pos hcf,HMm.out hcf]);have HN3:=qd (HN.out w3 (HE.out.next HB3.out) hcf);clear hb3 hC3 HT2 HC2 HN HN0 hnd hcf;go_wp2_with fail;refine HN3.out.mono ?_;rintro y w4 ⟨b,G,rfl,hA4,hG4,hb4⟩
 have HF:=qd (show Fill W0 E (mixH kind) K M I b w w4 G l 0 (.slice A2 l.length c2) l.length ((l.map (entM kind)).flatMap entCells)from by
  have ho4:=own_below HO3.out hb4 (Nat.le_refl _)
  exact⟨⟨_,hA4,fun k u=>by simp⟩,own_lowK ho4 HB1.out.size,fun q hq hg=>by have:=(HO3.out.lt q (by simpa using hq)).2;have:=hG4 q hg;omega,fun q hq=>by have:=hG4 q hq;have:=HB3.out.size;omega,HB3.out.trans (hb4.mono HB3.out.size)⟩)
 clear hA4 hG4 hb4 HN3 HO3 HO2 HB3 x0 x1 x2;go_wp2;go_loopw [36] (fun v36 wr=>∃(j:Nat) (G:List Nat),j≤l.length∧v36= .int .i64 (j:Int)∧Hid (Fill W0 E (mixH kind) K M I b w wr G l j (.slice A2 l.length c2) l.length ((l.map (entM kind)).flatMap entCells))) (fun v36 _=>l.length-(intOf v36).toNat)
 case atStart=>exact⟨0,G,by omega,rfl,HF⟩
 case round=>
  clear HF;obtain⟨j,G,hj,rfl,HF⟩:=hrel;by_cases hlt:j<l.length
  ·have hlt':(j:Int)<(l.length:Int):=by omega
   have hj0:(0:Int)≤(j:Int):=by omega
   have hwj:IntKind.i64.wrap ((j:Int)+1)=((j+1:Nat):Int):=by rw[IntKind.wrap_i64];omega
   obtain⟨p,hp⟩:∃p,l[j]?=some p:=⟨_,List.getElem?_eq_getElem hlt⟩
   have hpe:(l.map (entM kind))[j]?=some (entM kind p):=by rw[List.getElem?_map,hp];rfl
   obtain⟨g,off,hA,hgl,hc⟩:=(Reads.of_own HF.out.row).2 (by omega);have r0:wr.cell? ⟨g,off+j*3,none⟩=some (.int .u64 (p.1:Int)):=hc (j*3+0) _ (entCells_at hpe (by omega));have r1:wr.cell? ⟨g,off+j*3+1,none⟩=some (.int .u64 (p.2:Int)):=hc (j*3+1) _ (entCells_at hpe (by omega));have r2:wr.cell? ⟨g,off+j*3+2,none⟩=some (.int .u64 (mixH kind p.1:Int)):=hc (j*3+2) _ (entCells_at hpe (by omega));have hpm:=List.mem_of_getElem? hp;have HP:=qd (And.intro hp (HX.out.1 p hpm));subst hA;clear hc hp hpe hpm;go_upto_region 12 with fail;refine nameW (F:=fun v=>Blk v wr.heap.size 45 #[.int .u64 (p.1:Int),.int .u64 (p.2:Int),.int .u64 (mixH kind p.1:Int)]∧Below wr.heap.size wr v) ⟨Blk.new wr 45 #[.int .u64 (p.1:Int),.int .u64 (p.2:Int),.int .u64 (mixH kind p.1:Int)],(Below.refl wr.heap.size wr).alloc (Nat.le_refl _) _⟩ ?_;rintro w6 ⟨hB6,hb6⟩
   have HF6:=qd (show Fill W0 E (mixH kind) K M I b w w6 G l j (.slice (some ⟨g,off,none⟩) l.length c2) l.length ((l.map (entM kind)).flatMap entCells)from by
    obtain⟨⟨R,h1,h2⟩,h3,h4,h5,h6⟩:=HF.out
    exact⟨⟨R,h1.below hb6,h2⟩,own_below h3 hb6 (Nat.le_refl _),h4,h5,h6.trans (hb6.mono h6.size)⟩)
   obtain⟨bx,hbx⟩:∃bx,bx=wr.heap.size:=⟨_,rfl⟩;rw[←hbx]at hB6⊢;obtain⟨x0,x1,x2⟩:=hB6.c3;obtain⟨R,hR1,hR2⟩:=HF6.out.map
   have hnone:R p.1=none:=by
    cases hr:R p.1 with
    |none=>rfl
    |some u=>
     obtain⟨t1,t2,_,_⟩:=takeP HND.out HP.out.1;have h1:=(hR2 p.1 u).1 hr;have h2:=(allP_mem (HND.out.sublist ((List.take_sublist j l).map Prod.fst))).1 (p.1,u);have h3:=(getP_mem (allP_asc _)).2 (h2.2 h1);rw[t2]at h3;cases h3
   have hpt:=mp_Put hR1 (entM kind p) ⟨rfl,mixH_lt _ _,HP.out.2.1,HP.out.2.2⟩;by_cases hfull:M≤j
   ·have hroom:noRoom M (R p.1) j=true:=by rw[hnone];unfold noRoom;simp[hfull]
    rw[show(entM kind p).key=p.1 from rfl,show(entM kind p).val=p.2 from rfl,show(entM kind p).hash=mixH kind p.1 from rfl,hroom]at hpt;simp only[if_true]at hpt;rw[errV_pos E (by omega:1≤2)]at hpt;have HPt:=qd hpt;have HLz:=qd (show ld=2 from by rw[HLg.out,if_pos (by omega)]);clear hpt hB6 hb6 hbx hR1 hR2 hnone hroom HF r0 r1 r2;go_wp2_with fail;refine HPt.out.mono ?_;rintro y w7 ⟨rfl,G7,_,_,h7⟩;have HB7:=qd (HF6.out.below.trans (h7.below (fun q hq=>HF6.out.from_ q hq) HF6.out.below.size));clear h7 HPt HF6;go_wp2;refine bodyPost_ret (v:= .tuple #[.pointer none,.iface 346 (.pointer (some (E 2)))]) (by simp[results,Tryz.results5,go_sem]) rfl ⟨.inl ⟨by rw[HLz.out];decide,by rw[HLz.out,errV_pos E (by omega:1≤2)]⟩,HB7.out⟩
   have hroom:noRoom M (R p.1) j=false:=by rw[hnone];unfold noRoom;simp;omega
   rw[show(entM kind p).key=p.1 from rfl,show(entM kind p).val=p.2 from rfl,show(entM kind p).hash=mixH kind p.1 from rfl,hroom,show putN M (R p.1) j=j+1 from by rw[hnone];unfold putN;rw[if_neg];simp;omega]at hpt;simp only[Bool.false_eq_true,if_false,errV_zero]at hpt;have HPt:=qd hpt;have HR:=qd (And.intro hR2 (And.intro hnone (show putF M R j p.1 p.2=fun x=>if x=p.1 then some p.2 else R x from by unfold putF;rw[hroom];rfl)));clear hpt hB6 hb6 hbx hR1 hR2 hnone hroom HF r0 r1 r2;go_wp2_with fail;refine HPt.out.mono ?_;rintro y w7 ⟨rfl,hto⟩;obtain⟨G7,hF7⟩:=HF6.out.step HP.out.1 HR.out.1 HR.out.2.1 HR.out.2.2 hto;have HF7:=qd hF7;have HM:=qd (show l.length-(j+1)<l.length-j by omega);clear hto hF7 HPt HF6;go_wp2;go_roundw
   case measure=>simp[intOf];exact HM.out
   exact⟨j+1,G7,by omega,rfl,HF7⟩
  ·obtain rfl:j=l.length:=by omega
   have hlt':¬(l.length:Int)<(l.length:Int):=by omega
   have HFin:=qd (show ld=0∧(∃R,MpAt W0 E (mixH kind) K M I b G wr R l.length [] 0∧∀k u,R k=some u↔(k,u)∈l)∧(∀q∈G,w.heap.size≤q)∧Below w.heap.size w wr from by
    obtain⟨⟨R,h1,h2⟩,_,_,h5,h6⟩:=HF.out;rw[List.take_of_length_le (Nat.le_refl _)]at h2;have h7:=h1.least.1
    exact⟨by rw[HLg.out,if_neg (by omega)],⟨R,h1,h2⟩,h5,h6⟩)
   clear HF;go_wp2;refine bodyPost_ret (v:= .tuple #[.pointer (some ⟨b,0,none⟩),.nilIface]) (by simp[results,Tryz.results5,go_sem]) rfl (by refine⟨.inr ⟨HFin.out.1,HCF.out,HND.out, ?_⟩,HFin.out.2.2.2⟩;first|exact⟨b,G,rfl,HFin.out.2.1,HFin.out.2.2.1⟩|exact⟨b,rfl,G,HFin.out.2.1,HFin.out.2.2.1⟩)
end
def numF (f:Nat→Bool):Nat→Nat
 |0=>0
 |k+1=>numF f k*2+(f k).toNat
theorem numF_lt (f:Nat→Bool):∀k,numF f k<2^k
 |0=>by simp[numF]
 |k+1=>by
  have:=numF_lt f k;have h2:=Bool.toNat_lt (f k);unfold numF;rw[Nat.pow_succ];omega
theorem numF_bit (f:Nat→Bool):∀k i,(numF f k).testBit i=(decide (i<k) && f (k-1-i))
 |0,i=>by simp[numF]
 |k+1,0=>by
  unfold numF;rw[Nat.testBit_zero,decide_eq_true (by omega:0<k+1),Bool.true_and,show k+1-1-0=k by omega]
  cases f k with
  |false=>exact decide_eq_false (by show¬(numF f k*2+0) % 2=1;omega)
  |true=>exact decide_eq_true (by show(numF f k*2+1) % 2=1;omega)
 |k+1,i+1=>by
  unfold numF;rw[Nat.testBit_succ,show(numF f k*2+(f k).toNat)/2=numF f k by have:=Bool.toNat_lt (f k);omega,numF_bit f k i];rw[show k+1-1-(i+1)=k-1-i by omega];congr 1;simp
theorem numF_eq {f:Nat→Bool}{x:Nat}(hx:x<2^64)(h:∀i,i<64→x.testBit i=f (63-i)):numF f 64=x:=by
 apply Nat.eq_of_testBit_eq;intro i;rw[numF_bit];by_cases hi:i<64
 ·rw[decide_eq_true hi,Bool.true_and,h i hi]
 ·rw[decide_eq_false hi,Bool.false_and];exact(Nat.testBit_lt_two_pow (Nat.lt_of_lt_of_le hx (Nat.pow_le_pow_right (by omega) (by omega)))).symm
def swapN (x s m:Nat):Nat:=((x/2^s) &&& m)|||((x &&& m)*2^s)
theorem swap_nat {x s m d:Nat}(hd:2^s=d)(hx:x<18446744073709551616)(hm:m*d<18446744073709551616)(hm0:m<18446744073709551616):swapZ (x:Int) (d:Int) (m:Int)=((swapN x s m:Nat):Int)∧swapN x s m<18446744073709551616:=by
 have h1:x/d<18446744073709551616:=Nat.lt_of_le_of_lt (Nat.div_le_self _ _) hx;have h2:x &&& m≤m:=Nat.and_le_right;have h3:(x &&& m)*d<18446744073709551616:=Nat.lt_of_le_of_lt (Nat.mul_le_mul_right d h2) hm;have h4:x/d &&& m≤m:=Nat.and_le_right
 have h5:(x/d &&& m)<18446744073709551616:=by omega
 unfold swapZ swapN;rw[hd,show((x:Int)/(d:Int))=((x/d:Nat):Int)from(Int.natCast_ediv x d).symm,bits_and_u64_nat _ _ h1 hm0,bits_and_u64_nat _ _ hx hm0];rw[show(((x &&& m:Nat):Int)*(d:Int))=(((x &&& m)*d:Nat):Int) by simp,IntKind.wrap_u64];rw[show((((x &&& m)*d:Nat):Int) % 18446744073709551616)=(((x &&& m)*d:Nat):Int) by omega,bits_or_u64_nat _ _ h5 h3];refine⟨rfl, ?_⟩;have:=Nat.or_lt_two_pow (n:=64) (x:=x/d &&& m) (y:=(x &&& m)*d) (by omega) (by omega);omega
def MaskOk (s m:Nat):Prop:=∀i,i<64→(m.testBit i=true∧i^^^s=i+s∧(s≤i→m.testBit (i-s)=false))∨(m.testBit i=false∧s≤i∧m.testBit (i-s)=true∧i^^^s=i-s)
theorem swap_bit {x s m:Nat}(hm:MaskOk s m){i:Nat}(hi:i<64):(swapN x s m).testBit i=x.testBit (i^^^s):=by
 unfold swapN;rw[Nat.testBit_or,Nat.testBit_and,Nat.testBit_div_two_pow,Nat.testBit_mul_two_pow,Nat.testBit_and];rcases hm i hi with⟨h1,h2,h3⟩|⟨h1,h2,h3,h4⟩
 ·rw[h1,h2,Bool.and_true];by_cases hs:s≤i
  ·rw[h3 hs];simp[Nat.add_comm]
  ·rw[decide_eq_false (by omega)];simp[Nat.add_comm]
 ·rw[h1,h4,h3,decide_eq_true h2];simp
theorem mask1:MaskOk 1 6148914691236517205:=by unfold MaskOk;decide+kernel
theorem mask2:MaskOk 2 3689348814741910323:=by unfold MaskOk;decide+kernel
theorem mask4:MaskOk 4 1085102592571150095:=by unfold MaskOk;decide+kernel
theorem mask8:MaskOk 8 71777214294589695:=by unfold MaskOk;decide+kernel
theorem mask16:MaskOk 16 281470681808895:=by unfold MaskOk;decide+kernel
theorem xor_lt:∀i,i<64→∀s,s<64→i^^^s<64:=fun _ hi _ hs=>Nat.xor_lt_two_pow (n:=6) hi hs
theorem xor63:∀i,i<64→(((((i^^^32)^^^16)^^^8)^^^4)^^^2)^^^1=63-i:=by decide+kernel
theorem xor32:∀i,i<64→(i<32∧i^^^32=i+32)∨(32≤i∧i^^^32=i-32):=by decide+kernel
theorem revZ_num (key:Nat)(hk:key<18446744073709551616):revZ (key:Int)=((numF (fun i=>key.testBit i) 64:Nat):Int):=by
 obtain⟨e1,l1⟩:=swap_nat (s:=1) (d:=2) (m:=6148914691236517205) rfl hk (by decide) (by decide);obtain⟨e2,l2⟩:=swap_nat (s:=2) (d:=4) (m:=3689348814741910323) rfl l1 (by decide) (by decide);obtain⟨e3,l3⟩:=swap_nat (s:=4) (d:=16) (m:=1085102592571150095) rfl l2 (by decide) (by decide);obtain⟨e4,l4⟩:=swap_nat (s:=8) (d:=256) (m:=71777214294589695) rfl l3 (by decide) (by decide);obtain⟨e5,l5⟩:=swap_nat (s:=16) (d:=65536) (m:=281470681808895) rfl l4 (by decide) (by decide)
 have hb:∀i,i<64→(swapN (swapN (swapN (swapN (swapN key 1 6148914691236517205) 2 3689348814741910323) 4 1085102592571150095) 8 71777214294589695) 16 281470681808895).testBit i=key.testBit (((((i^^^16)^^^8)^^^4)^^^2)^^^1):=fun i hi=>by
  have a1:=xor_lt i hi 16 (by omega);have a2:=xor_lt _ a1 8 (by omega);have a3:=xor_lt _ a2 4 (by omega);have a4:=xor_lt _ a3 2 (by omega);rw[swap_bit mask16 hi,swap_bit mask8 a1,swap_bit mask4 a2,swap_bit mask2 a3,swap_bit mask1 a4]
 generalize hy:swapN (swapN (swapN (swapN (swapN key 1 6148914691236517205) 2 3689348814741910323) 4 1085102592571150095) 8 71777214294589695) 16 281470681808895=y at*
 have hr:revZ (key:Int)=((y/2^32|||(y*2^32) % 2^64:Nat):Int):=by
  unfold revZ revBZ;have c1:swapZ ((key:Nat):Int) 2 6148914691236517205=(((swapN key 1 6148914691236517205):Nat):Int):=e1;have c2:swapZ (((swapN key 1 6148914691236517205):Nat):Int) 4 3689348814741910323=(((swapN (swapN key 1 6148914691236517205) 2 3689348814741910323):Nat):Int):=e2;have c3:swapZ (((swapN (swapN key 1 6148914691236517205) 2 3689348814741910323):Nat):Int) 16 1085102592571150095=(((swapN (swapN (swapN key 1 6148914691236517205) 2 3689348814741910323) 4 1085102592571150095):Nat):Int):=e3;have c4:swapZ (((swapN (swapN (swapN key 1 6148914691236517205) 2 3689348814741910323) 4 1085102592571150095):Nat):Int) 256 71777214294589695=(((swapN (swapN (swapN (swapN key 1 6148914691236517205) 2 3689348814741910323) 4 1085102592571150095) 8 71777214294589695):Nat):Int):=e4;have c5:swapZ (((swapN (swapN (swapN (swapN key 1 6148914691236517205) 2 3689348814741910323) 4 1085102592571150095) 8 71777214294589695):Nat):Int) 65536 281470681808895=(y:Int):=e5;rw[c1,c2,c3,c4,c5];rw[show((y:Int)/4294967296)=((y/2^32:Nat):Int) by omega,IntKind.wrap_u64,show(((y:Int)*4294967296) % 18446744073709551616)=(((y*2^32) % 2^64:Nat):Int) by omega];exact bits_or_u64_nat _ _ (by omega) (by omega)
 rw[hr];congr 1;symm;refine numF_eq (Nat.or_lt_two_pow (by omega) (by omega)) fun i hi=> ?_;rw[Nat.testBit_or,Nat.testBit_div_two_pow,Nat.testBit_mod_two_pow,Nat.testBit_mul_two_pow,decide_eq_true hi,Bool.true_and];show _=key.testBit (63-i);rw[←xor63 i hi];rcases xor32 i hi with⟨h1,h2⟩|⟨h1,h2⟩
 ·rw[decide_eq_false (by omega),Bool.false_and,Bool.or_false,h2,hb _ (by omega)]
 ·rw[decide_eq_true h1,Bool.true_and,h2,Nat.testBit_lt_two_pow (show y<2^(i+32)from Nat.lt_of_lt_of_le (show y<2^64 by omega) (Nat.pow_le_pow_right (by omega) (by omega))),Bool.false_or,hb _ (by omega)]
theorem num_same (key:Nat)(hk:key<18446744073709551616):numF (fun i=>key.testBit (63-i)) 64=key:=
 numF_eq (by omega) fun i hi=>by show key.testBit i=key.testBit (63-(63-i));rw[show 63-(63-i)=i by omega]
theorem num_zero:numF (fun _=>false) 64=0:=numF_eq (by decide) fun i _=>by simp
theorem num_top (key:Nat):((numF (fun i=>decide (i<6) && key.testBit (5-i)) 64:Nat):Int)=IntKind.u64.wrap ((key:Int)*288230376151711744):=by
 rw[IntKind.wrap_u64,show(((key:Int)*288230376151711744) % 18446744073709551616)=(((key*2^58) % 2^64:Nat):Int) by omega];refine congrArg (Nat.cast (R:=Int)) (numF_eq (by omega) fun i hi=> ?_);rw[Nat.testBit_mod_two_pow,Nat.testBit_mul_two_pow,decide_eq_true hi,Bool.true_and];show _=(decide (63-i<6) && key.testBit (5-(63-i)));by_cases h:58≤i
 ·rw[decide_eq_true h,decide_eq_true (by omega),show 5-(63-i)=i-58 by omega]
 ·rw[decide_eq_false h,decide_eq_false (by omega),Bool.false_and,Bool.false_and]
theorem numF_take (f:Nat→Bool)(k:Nat)(hk:k<64):IntKind.u64.wrap ((numF f k:Int)*2+((f k).toNat:Int))=((numF f (k+1):Nat):Int):=by
 have h1:=numF_lt f (k+1);have h2:(2:Nat)^(k+1)≤2^64:=Nat.pow_le_pow_right (by omega) (by omega);have h3:numF f (k+1)=numF f k*2+(f k).toNat:=rfl;rw[IntKind.wrap_u64];omega
section
def fL (f:Nat→Nat):List Value:=(List.range 64).map fun i=>Value.int .i64 (f i:Int)
theorem fL_len (f:Nat→Nat):(fL f).length=64:=by simp[fL]
theorem fL_get (f:Nat→Nat){k:Nat}(hk:k<64):(fL f)[k]?=some (.int .i64 (f k:Int)):=by
 unfold fL;rw[List.getElem?_map,List.getElem?_range hk];rfl
theorem fL_cell (f:Nat→Nat):∀v∈fL f,v.oneCell'=true:=fun v hv=>by
 obtain⟨i,_,rfl⟩:=List.mem_map.1 hv;rfl
theorem fL_congr {f g:Nat→Nat}(h:∀i,i<64→f i=g i):fL f=fL g:=by
 unfold fL;refine List.map_congr_left fun i hi=> ?_;rw[h i (by simpa using hi)]
theorem fL_zero:fL (fun _=>0)=List.replicate 64 (Value.int .i64 0):=by
 refine List.ext_getElem? fun i=> ?_;by_cases hi:i<64
 ·rw[fL_get _ hi,List.getElem?_replicate,if_pos hi];rfl
 ·rw[List.getElem?_eq_none (by rw[fL_len];omega),List.getElem?_eq_none (by simp;omega)]
section
variable {w : World} {b k n : Nat} {t : TypeId} {f : Nat → Nat}
theorem fA_at (h:Blk w b t (fL f).toArray)(hk:k<64):w.cell? ⟨b,k,none⟩=some (.int .i64 (f k:Int)):=by
 have h1:=h.cell k;rw[List.getElem?_toArray,fL_get f hk]at h1;exact h1
theorem fA_set (h:Blk w b t (fL f).toArray)(k n:Nat):Blk (w.setCell ⟨b,k,none⟩ (.int .i64 (n:Int))) b t (fL fun i=>if i=k then n else f i).toArray:=by
 have h1:=h.set_ k (.int .i64 (n:Int));rw[List.setIfInBounds_toArray]at h1
 have h2:(fL f).set k (.int .i64 (n:Int))=fL fun i=>if i=k then n else f i:=by
  refine List.ext_getElem? fun i=> ?_;by_cases hi:i<64
  ·rw[fL_get _ hi];by_cases hk:i=k
   ·subst hk;rw[List.getElem?_set_self (by rw[fL_len];exact hi),if_pos rfl]
   ·rw[List.getElem?_set_ne (fun e=>hk e.symm),fL_get f hi,if_neg hk]
  ·rw[List.getElem?_eq_none (by rw[List.length_set,fL_len];omega),List.getElem?_eq_none (by rw[fL_len];omega)]
 rw[h2]at h1;exact h1
theorem fA_range (h:Blk w b t (fL f).toArray):w.rangeAt b 0 (fL f):=fun j v hv=>by
 have h1:=h.cell (0+j);rw[h1,Nat.zero_add];simpa using hv
theorem fA_there (h:Blk w b t (fL f).toArray):w.there b 0 64:=fun j hj=>by
 refine⟨?_,h.frozen (0+j)⟩;rw[show(⟨b,0+j,none⟩:Addr)=⟨b,j,none⟩ by rw[Nat.zero_add],fA_at h hj];rfl
theorem fA_sets (h:Blk w b t (fL f).toArray)(g:Nat→Nat){B:Nat}(hB:B≤b):Blk (w.setCells b 0 (fL g)) b t (fL g).toArray∧Mod [b] w (w.setCells b 0 (fL g)):=by
 have h1:=blk_sets (post:=[]) (fL g) (fL f) [] w (by rw[fL_len,fL_len]) (by simpa using h);exact⟨by simpa using h1,mod_sets (by simp) (fL g) 0 _ (Mod.refl [b] w)⟩
end
def bitN (x i:Nat):Nat:=(x.testBit (63-i)).toNat
theorem bit_div (x j:Nat):x/2^j % 2=(x.testBit j).toNat:=by
 rw[Nat.testBit_eq_decide_div_mod_eq]
 have:x/2^j % 2=0∨x/2^j % 2=1:=by omega
 rcases this with e|e<;>rw[e]<;>rfl
end
theorem new_thereA (w:World)(cs:List Value)(t:TypeId):(w.alloc (.cells cs.toArray t)).there w.heap.size 0 cs.length:=fun j hj=>by
 have h:=Blk.new w t cs.toArray;refine⟨?_, ?_⟩
 ·have h1:=h.cell (0+j);rw[h1,List.getElem?_toArray,Nat.zero_add,List.getElem?_eq_getElem hj];rfl
 ·exact h.frozen (0+j)
theorem new_setsA (w:World)(cs:List Value)(t:TypeId):Blk ((w.alloc (.cells cs.toArray t)).setCells w.heap.size 0 cs) w.heap.size t cs.toArray∧Below w.heap.size w ((w.alloc (.cells cs.toArray t)).setCells w.heap.size 0 cs):=by
 have h1:=blk_sets (post:=[]) cs cs [] (w.alloc (.cells cs.toArray t)) rfl (by simpa using Blk.new w t cs.toArray);refine⟨by simpa using h1, ?_⟩;have h2:Mod [w.heap.size] w ((w.alloc (.cells cs.toArray t)).setCells w.heap.size 0 cs):=mod_sets (by simp) cs 0 _ (Mod.of_below ((Below.refl w.heap.size w).alloc (Nat.le_refl _) _) _);exact h2.below (by simp) (Nat.le_refl _)
theorem ref03_Bits (x:Nat)(hx:x<18446744073709551616)(w:World):
  Calls Tryz.prog 28 #[.int .u64 (x:Int)] w fun y w'=>y= .returned (.agg (fL (bitN x)).toArray)∧Below w.heap.size w w':=by
 have hnew:∀(W:World) (t:TypeId),Blk (W.alloc (.cells (List.replicate 64 (Value.int .i64 0)).toArray t)) W.heap.size t (fL fun _=>0).toArray:=fun W t=>by rw[fL_zero];exact Blk.new W t _
 have HN:=qd hnew;have HD:=qd (bit_div x);clear hnew;go_in;go_upto_region 1 with fail;refine nameW (F:=fun v=>Blk v w.heap.size 71 (fL fun _=>0).toArray∧Below w.heap.size w v∧v.heap.size=w.heap.size+1) ⟨HN.out w _,(Below.refl w.heap.size w).alloc (Nat.le_refl _) _,by simp⟩ ?_;rintro w1 ⟨h1,hb1,hs1⟩;have HA:=qd h1;have HB:=qd hb1;have HS:=qd hs1;obtain⟨ra,hra⟩:∃ra,ra=w.heap.size:=⟨_,rfl⟩;rw[←hra]at HA⊢;have HRa:=qd hra;clear h1 hb1 hs1 hra
 go_upto_region 2 with(refine wpList_store_mid rfl 71 (.tmp 3) (.tmp 5) rfl w1.heap.size 0 _ rfl rfl (new_thereA w1 _ 71) (by kernel_rfl) (by kernel_rfl) ?_)
 refine nameW (F:=fun v=>Blk v w1.heap.size 71 (fL fun _=>0).toArray∧Below w1.heap.size w1 v) ⟨by rw[fL_zero];exact(new_setsA w1 _ 71).1,(new_setsA w1 _ 71).2⟩ ?_;rintro w2 ⟨h2,hb2⟩;obtain⟨rb,hrb⟩:∃rb,rb=w1.heap.size:=⟨_,rfl⟩
 have HBk:=qd (show Blk w2 rb 71 (fL fun i=>if 64≤i+0 then bitN x i else 0).toArray from by
  rw[hrb,fL_congr (g:=fun _=>0) (fun i hi=>if_neg (by omega))];exact h2)
 have HAk:=qd (HA.out.below hb2 HA.out.lt);have HB2:=qd (HB.out.trans (hb2.mono HB.out.size));have HRb:=qd (show ra<rb∧w.heap.size≤rb∧w.heap.size≤ra from by have:=HS.out;have:=HRa.out;omega);rw[←hrb];clear h2 hb2 hrb HA HB HS HN
 have hz0:x/2^0=x:=by simp
 go_wp2;go_loopw [0,4] (fun v0 v4 wr=>∃j:Nat,j≤64∧v4= .int .i64 (63-(j:Int))∧v0= .int .u64 ((x/2^j:Nat):Int)∧Hid (Blk wr ra 71 (fL fun _=>0).toArray)∧Hid (Blk wr rb 71 (fL fun i=>if 64≤i+j then bitN x i else 0).toArray)∧Hid (Below w.heap.size w wr)) (fun _ v4 _=>(intOf v4+1).toNat)
 case atStart=>exact⟨0,by omega,rfl,by rw[hz0],HAk,HBk,HB2⟩
 case round=>
  clear HAk HBk HB2;obtain⟨j,hj,rfl,rfl,HAk,HBk,HB2⟩:=hrel;by_cases hlt:j<64
  ·obtain⟨k,hk⟩:∃k,k=63-j:=⟨_,rfl⟩
   have hki:(63:Int)-(j:Int)=(k:Int):=by omega
   obtain⟨z,hz⟩:∃z,z=x/2^j:=⟨_,rfl⟩
   have hz64:z<18446744073709551616:=by rw[hz];exact Nat.lt_of_le_of_lt (Nat.div_le_self _ _) hx
   have hz2:x/2^(j+1)=z/2:=by rw[hz,Nat.pow_succ,Nat.div_div_eq_div_mul]
   have hbit:((z:Int) % 2)=((bitN x k:Nat):Int):=by
    have:=HD.out j;rw[←hz]at this;unfold bitN;rw[show 63-k=j by omega,←this];omega
   rw[hki,←hz]
   have hk0:(0:Int)≤(k:Int):=by omega
   have hk64:(k:Int)<64:=by omega
   have hkn:k<64:=by omega
   have hb1:(bitN x k:Int)≤1:=by unfold bitN;have:=Bool.toNat_lt (x.testBit (63-k));omega
   have hcell:=fA_at HBk.out hkn;have hfr:=HBk.out.frozen k;have hset:=fA_set HBk.out k (bitN x k);have HSt:=qd hset;have HK:=qd hk;have HZ2:=qd hz2
   have hwd:wrap64 ((bitN x k:Nat):Int)=((bitN x k:Nat):Int):=by unfold wrap64;omega
   have hrem:((z:Int).tmod 2)=((bitN x k:Nat):Int):=by rw[Int.tmod_eq_emod_of_nonneg (Int.natCast_nonneg z)];exact hbit
   have hquo:((z:Int).tdiv 2)=((z/2:Nat):Int):=by rw[Int.tdiv_eq_ediv_of_nonneg (Int.natCast_nonneg z)];exact(Int.natCast_ediv z 2).symm
   have hwk:wrap64 ((k:Int)-1)=63-((j+1:Nat):Int):=by unfold wrap64;omega
   clear hset hk hz2 hbit hz;have HB3:=qd (HB2.out.setCell (p:=⟨rb,k,none⟩) HRb.out.2.1 (.int .i64 ((bitN x k:Nat):Int)));go_wp2;go_roundw
   case measure=>(simp[intOf]<;>omega)
   refine⟨j+1,by omega,congrArg (Value.int .i64) (by omega),by rw[HZ2.out];exact congrArg (Value.int .u64) (Int.natCast_ediv z 2).symm,qd (HAk.out.far (p:=⟨rb,k,none⟩) (Nat.ne_of_lt HRb.out.1) _),qd ?_,HB3⟩;have h9:=HSt.out;rw[fL_congr (g:=fun i=>if 64≤i+(j+1)then bitN x i else 0) (fun i hi=> ?_)]at h9
   ·exact h9
   ·have:=HK.out;by_cases e:i=k
    ·subst e;rw[if_pos rfl,if_pos (by omega)]
    ·rw[if_neg e];by_cases e2:64≤i+j
     ·rw[if_pos e2,if_pos (by omega)]
     ·rw[if_neg e2,if_neg (by omega)]
  ·obtain rfl:j=64:=by omega
   have hx64:(63:Int)-((64:Nat):Int)= -1:=by decide
   rw[hx64];have hbk:=HBk.out;rw[fL_congr (g:=bitN x) (fun i hi=>if_pos (by omega))]at hbk;have HBe:=qd hbk;have HBr:=qd (fA_range hbk);have HTh:=qd (fA_there HAk.out);have HSt:=qd (fA_sets HAk.out (bitN x) (Nat.zero_le _));have HLn:=qd (fL_len (bitN x));clear hbk HBk;go_wp2_with (first|refine wpList_load_mid rfl 71 (.tmp 3) rfl rb 0 rfl _ _ HBr.out (by rfl) rfl (by rw[HLn.out];rfl) ?_|refine wpList_store_mid rfl 71 (.tmp 2) (.tmp 17) rfl ra 0 _ rfl rfl (by rw[List.size_toArray,HLn.out];exact HTh.out) (by rw[List.size_toArray,HLn.out];kernel_rfl) (all_oneCell_toArray (fL_cell _)) ?_);refine bodyPost_ret (v:= .agg (fL (bitN x)).toArray) (results_cell_row rfl _ _ ra 71 (fL (bitN x)).toArray (0,0) _ rfl HSt.out.1 Tryz.underlying71 rfl (by rw[List.size_toArray,HLn.out];kernel_rfl)) rfl ⟨rfl,HB2.out.trans (HSt.out.2.below (by simp;exact HRb.out.2.2) HB2.out.size)⟩
theorem ref03_Number (f:Nat→Bool)(b:Nat)(w:World)(hb:Blk w b 71 (fL fun i=>(f i).toNat).toArray):
  Calls Tryz.prog 29 #[.slice (some ⟨b,0,none⟩) 64 64] w fun y w'=>y= .returned (.int .u64 (numF f 64:Int))∧w=w':=by
 have HB:=qd hb;clear hb;go_in;go_wp2;go_loopw [3,8] (fun v3 v8 wr=>∃j:Nat,j≤64∧v8= .int .i64 (j:Int)∧v3= .int .u64 (numF f j:Int)∧w=wr) (fun _ v8 _=>64-(intOf v8).toNat)
 case atStart=>exact⟨0,by omega,rfl,rfl,rfl⟩
 case round=>
  obtain⟨j,hj,rfl,rfl,rfl⟩:=hrel;by_cases hlt:j<64
  ·have hlt':(j:Int)<64:=by omega
   have hj0:(0:Int)≤(j:Int):=by omega
   have hwj:IntKind.i64.wrap ((j:Int)+1)=((j+1:Nat):Int):=by rw[IntKind.wrap_i64];omega
   have hcell:=fA_at HB.out hlt;have hbt:=Bool.toNat_lt (f j);have htk:=numF_take f j hlt
   have hwu:IntKind.u64.wrap (((f j).toNat:Nat):Int)=(((f j).toNat:Nat):Int):=by rw[IntKind.wrap_u64];omega
   have HT:=qd htk;go_wp2;go_roundw
   case measure=>(simp[intOf]<;>omega)
   exact⟨j+1,by omega,rfl,congrArg (Value.int .u64) (by rw[←HT.out,IntKind.wrap_u64,IntKind.wrap_u64,IntKind.wrap_u64];omega),by first|rfl|trivial⟩
  ·obtain rfl:j=64:=by omega
   go_wp2;go_ret;exact⟨rfl,rfl⟩
end Go.Proofs.YthfgacnlojmmfaaGreatDoor
