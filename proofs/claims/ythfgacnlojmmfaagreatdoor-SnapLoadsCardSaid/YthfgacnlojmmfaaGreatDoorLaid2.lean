/- SnapLoads: what is loaded of all pairs, or why not. -/
import Derived.Test.YthfgacnlojmmfaaGreatDoorMixS
import Derived.Test.YthfgacnlojmmfaaGreatDoorLaneP
import Derived.Test.YthfgacnlojmmfaaGreatDoorBuilder
import Derived.Test.YthfgacnlojmmfaaGreatDoorNum
import Derived.Deep.CutRange
import Derived.Test.YthfgacnlojmmfaaGreatDoorCoH
import Derived.Test.YthfgacnlojmmfaaGreatDoorRows
import Derived.ProofKit
import Derived.LaidMore
import Derived.Stop.LaidErr
import Derived.Lib.LaidTab
import Derived.HandedShaped
import Derived.Handed
namespace Go.Proofs.YthfgacnlojmmfaaGreatDoor
set_option maxRecDepth 100000
set_option maxHeartbeats 8000000
open Go.RowKit AmC AmL Go.ChangeShapes Go.WideShapes Go.ChangeAt
section
variable {l : PL} {p : Nat × Nat} {E : Nat → Addr} {w : World}
theorem allP_leG (l:PL):(allP l).length≤l.length:=by
 have:∀(l t:PL),AscP t→(l.foldl (fun t p=>putP t p.1 p.2) t).length≤t.length+l.length:=by
  intro l
  induction l with
  |nil=>intro t _;simp
  |cons p l ih=>
   intro t ht;have h1:=ih (putP t p.1 p.2) (putP_asc ht p.1 p.2);rw[putP_length ht]at h1;rw[List.foldl_cons,List.length_cons]
   split at h1<;>omega
 simpa[allP]using this l [] List.Pairwise.nil
def dupN (l:PL):Nat:=if(l.map Prod.fst).Nodup then 0 else 16
theorem put_some {t:PL}(ht:AscP t)(a b k:Nat):(getP (putP t a b) k).isSome=(decide (k=a)||(getP t k).isSome):=by
 have hp:=putP_asc ht a b;by_cases hk:k=a
 ·subst hk;rw[(getP_mem hp).2 ((putP_mem ht).2 (.inl rfl))];simp
 ·rw[decide_eq_false hk,Bool.false_or]
  cases hg:getP t k with
  |some u=>rw[(getP_mem hp).2 ((putP_mem ht).2 (.inr ⟨(getP_mem ht).1 hg,hk⟩))]
  |none=>
   rw[getP_none.2 fun q hq e=> ?_];rcases(putP_mem ht).1 hq with rfl|⟨h,_⟩
   ·exact hk e.symm
   ·exact(getP_none.1 hg) q h e
theorem all_some (l:PL)(k:Nat):(getP (allP l) k).isSome=decide (k∈l.map Prod.fst):=by
 have:∀(l t:PL),AscP t→(getP (l.foldl (fun t p=>putP t p.1 p.2) t) k).isSome=(decide (k∈l.map Prod.fst)||(getP t k).isSome):=by
  intro l
  induction l with
  |nil=>intro t _;simp
  |cons x l ih=>
   intro t ht;rw[List.foldl_cons,ih _ (putP_asc ht x.1 x.2),put_some ht,List.map_cons]
   by_cases h1:k=x.1<;>by_cases h2:k∈l.map Prod.fst<;>simp[h1,h2]
 have h:=this l [] List.Pairwise.nil;simpa[allP,getP]using h
theorem dupN_step {i:Nat}(hp:l[i]?=some p):dupN (l.take (i+1))=if(getP (allP (l.take i)) p.1).isSome=true then 16 else dupN (l.take i):=by
 unfold dupN
 have e:((l.take (i+1)).map Prod.fst).Nodup↔((l.take i).map Prod.fst).Nodup∧p.1∉(l.take i).map Prod.fst:=by
  rw[List.take_add_one,hp,List.map_append,List.nodup_append];constructor
  ·rintro⟨h1,_,h3⟩;exact⟨h1,fun h=>h3 _ h _ (by simp) rfl⟩
  ·rintro⟨h1,h2⟩;refine⟨h1,by simp,fun a ha b hb e=>h2 ?_⟩
   have:b=p.1:=by simpa using hb
   rw[←this,←e];exact ha
 rw[all_some];by_cases h:p.1∈(l.take i).map Prod.fst
 ·rw[decide_eq_true h,if_pos rfl];exact if_neg fun hn=>(e.1 hn).2 h
 ·rw[decide_eq_false h,if_neg Bool.false_ne_true];by_cases hn:((l.take i).map Prod.fst).Nodup
  ·rw[if_pos hn];exact if_pos (e.2 ⟨hn,h⟩)
  ·rw[if_neg hn];exact if_neg fun x=>hn (e.1 x).1
def loadF (k m i kind:Int)(l:PL):Nat:=if kind<0∨5<kind then 14 else loadE k m i l
theorem loadF_le (k m i kind:Int)(l:PL):loadF k m i kind l≤16:=by
 unfold loadF loadE;split
 ·omega
 ·split
  ·split
   ·split<;>omega
   ·omega
  ·omega
theorem fn_getPG {R:Nat→Option Nat}{T:PL}(ha:AscP T)(hl:AscP l)(hg:∀k,getP l k=R k)(hR:∀k u,R k=some u↔(k,u)∈T):l=T:=by
 refine asc_same hl ha fun k=> ?_;rw[hg]
 cases hr:R k with
 |some u=>exact((getP_mem ha).2 ((hR k u).1 hr)).symm
 |none=>
  cases hp:getP T k with
  |none=>rfl
  |some u=>
   have:=(hR k u).2 ((getP_mem ha).1 hp);rw[hr]at this;cases this
theorem snap_Load_all {W0:World}(hE:Env W0 E w)(hEr:ErrsIn E W0)(hW:MixWords w)(k m i kind:Int){A:Option Addr}{c B:Nat}(hl:Reads w B 2 A l.length (l.flatMap pairC))(hM:l.length≤200)(h64:∀p∈l,p.1<18446744073709551616∧p.2<18446744073709551616):
  Calls Tryz.prog 5 #[cfgV k m i,.slice A l.length c,.int .i64 kind] w fun y w'=>∃p,y= .returned (.tuple #[.pointer p,errV E (loadF k m i kind l)])∧(loadF k m i kind l≠0→p=none)∧(loadF k m i kind l=0→∃b G,p=some ⟨b,0,none⟩∧cfgOk k m i=true∧(l.map Prod.fst).Nodup∧(∃R,MpAt W0 E (mixH kind.toNat) k.toNat m.toNat i.toNat b G w' R l.length [] 0∧∀k u,R k=some u↔(k,u)∈l)∧∀q∈G,w.heap.size≤q)∧Below w.heap.size w w':=by
 by_cases hk:kind<0∨5<kind
 ·refine(snap_Load_kind hE (hEr.at_ 14 (by omega) (by omega)) k m i A l.length c kind hk).mono ?_;rintro y w' ⟨rfl,hb⟩
  have e:loadF k m i kind l=14:=by unfold loadF;rw[if_pos hk]
  exact⟨none,by rw[e],fun _=>rfl,fun h=>(by rw[e]at h;cases h),hb⟩
 ·obtain⟨kq,rfl⟩:∃kq:Nat,kind=(kq:Int):=⟨kind.toNat,by omega⟩
  have e:loadF k m i (kq:Int) l=loadE k m i l:=by unfold loadF;rw[if_neg hk]
  rw[e,Int.toNat_natCast];refine(snap_LoadG (c:=c) hE hW (hEr.at_ 16 (by omega) (by omega)) k m i hl hM h64 kq (by omega)).mono ?_;rintro y w' ⟨⟨h0,rfl⟩|⟨h0,h1,h2,b,G,rfl,h3,h4⟩,hb⟩
  ·exact⟨none,rfl,fun _=>rfl,fun h=>absurd h h0,hb⟩
  ·exact⟨_,by rw[h0];rfl,fun h=>absurd h0 h,fun _=>⟨b,G,rfl,h1,h2,h3,h4⟩,hb⟩
theorem law_loads {l0:PL}{A0:Option Addr}{c0:Nat}(k m i kind:Int)(hl:Reads w w.heap.size 2 A0 l0.length (l0.flatMap pairC))(h64:∀p∈l0,p.1<18446744073709551616∧p.2<18446744073709551616)(hE:Env w E w)(hEr:ErrsIn E w)(hW:MixWords w)(hT:w.cell? ⟨18,15,none⟩=some (.int .u8 4)):
  Calls Tryz.prog 3 #[cfgV k m i,.slice A0 l0.length c0,.int .i64 kind] w fun y w'=>y= .returned (.bool true)∧Below w.heap.size w w':=by
 have HAl:=qd (fun(W:World) (hb:Below w.heap.size w W)=>law39_alive (hE.next hb) (hEr.at_ 6 (by omega) (by omega)) hT);have HL:=qd hl;have HX:=qd (And.intro h64 (And.intro hE (And.intro hEr hW)));unfold cfgV;clear h64 hE hW hEr hT hl;go_in;go_upto_region 1 with fail;refine nameW (F:=fun v=>Blk v w.heap.size 23 #[.int .i64 k,.int .i64 m,.int .i64 i]∧Below w.heap.size w v) ⟨Blk.new w 23 #[.int .i64 k,.int .i64 m,.int .i64 i],(Below.refl w.heap.size w).alloc (Nat.le_refl _) _⟩ ?_;rintro w1 ⟨hB1,hb1⟩;obtain⟨bc,hbc⟩:∃bc,bc=w.heap.size:=⟨_,rfl⟩;rw[←hbc]at hB1⊢;have HC1:=qd hB1;have HB1:=qd hb1;have HBc:=qd hbc;have HA1:=qd (HAl.out w1 hb1);clear hB1 hb1 hbc HAl;go_wp2_with fail;refine HA1.out.mono ?_;rintro y w2 ⟨rfl,hb2⟩;have HB2:=qd (HB1.out.trans (hb2.mono HB1.out.size));have HC2:=qd (HC1.out.below hb2 HC1.out.lt);clear hb2 HA1 HB1 HC1;by_cases hlong:200<l0.length
 ·have hlong':(200:Int)<(l0.length:Int):=by omega
  go_wp2;go_ret;exact⟨rfl,HB2.out⟩
 have hlong':¬(200:Int)<(l0.length:Int):=by omega
 have HLo:=qd (snap_Load_all (c:=c0) (HX.out.2.1.next HB2.out) HX.out.2.2.1 (HX.out.2.2.2.below HB2.out) k m i kind ((⟨HL.out.1,fun hn=>by
  obtain⟨b,off,h1,h2,h3⟩:=HL.out.2 hn
  exact⟨b,off,h1,h2,fun j u hu=>cell_in HB2.out (h3 j u hu)⟩⟩:Reads w2 w.heap.size 2 A0 l0.length (l0.flatMap pairC))) (by omega) HX.out.1)
 unfold cfgV at HLo;obtain⟨bd,hbd⟩:∃bd,bd=loadF k m i kind l0:=⟨_,rfl⟩;rw[←hbd]at HLo;have HBd:=qd (show bd=loadF k m i kind l0∧bd≤16 from⟨hbd,hbd▸loadF_le _ _ _ _ _⟩);obtain⟨x0,x1,x2⟩:=HC2.out.c3;clear hbd;go_wp2_with fail;refine HLo.out.mono ?_;rintro y w3 ⟨p,rfl,hp0,hp1,hb3⟩;have HB3:=qd (HB2.out.trans (hb3.mono HB2.out.size));have HC3:=qd (HC2.out.below hb3 HC2.out.lt);have HP:=qd (And.intro hp0 (And.intro hp1 HB2.out.size));clear hp0 hp1 hb3 x0 x1 x2 HLo HB2 HC2;have HNw:=qd (pl_New 1000 w3);go_wp2_with fail;refine HNw.out.mono ?_;rintro y w4 ⟨rfl,hf4,hb4⟩;obtain⟨fb,hfb⟩:∃fb,fb=w3.heap.size:=⟨_,rfl⟩;have HF:=qd (show∃F,PlF w3.heap.size w4 fb 1000 F (allP (l0.take 0))from⟨_,by rw[hfb];exact hf4⟩);have HB4:=qd hb4;rw[←hfb];clear hf4 hb4 hfb HNw;go_wp2;go_loopw [9,39] (fun v9 v39 wr=>∃j:Nat,j≤l0.length∧v39= .int .i64 (j:Int)∧v9= .int .i64 (dupN (l0.take j):Int)∧Hid (∃F,PlF w3.heap.size wr fb 1000 F (allP (l0.take j)))∧Hid (Below w3.heap.size w3 wr)) (fun _ v39 _=>l0.length-(intOf v39).toNat)
 case atStart=>exact⟨0,by omega,rfl,rfl,HF,HB4⟩
 case round=>
  clear HF HB4;obtain⟨j,hj,rfl,rfl,HF,HB4⟩:=hrel;by_cases hlt:j<l0.length
  ·have hlt':(j:Int)<(l0.length:Int):=by omega
   have hj0:(0:Int)≤(j:Int):=by omega
   have hwj:IntKind.i64.wrap ((j:Int)+1)=((j+1:Nat):Int):=by rw[IntKind.wrap_i64];omega
   obtain⟨q,hq⟩:∃q,l0[j]?=some q:=⟨_,List.getElem?_eq_getElem hlt⟩;obtain⟨g,off,hA,hgl,hc⟩:=HL.out.2 (by omega);have hbr:=HB3.out.trans (HB4.out.mono HB3.out.size);have r0:wr.cell? ⟨g,off+j*2,none⟩=some (.int .u64 (q.1:Int)):=cell_in hbr (hc (j*2+0) _ (pairC_at hq (by omega)));have r1:wr.cell? ⟨g,off+j*2+1,none⟩=some (.int .u64 (q.2:Int)):=cell_in hbr (hc (j*2+1) _ (pairC_at hq (by omega)));have HTk:=qd (show allP (l0.take (j+1))=putP (allP (l0.take j)) q.1 q.2 from by rw[List.take_add_one,hq];exact allP_snoc _ _);have hal:=allP_leG (l0.take j);rw[List.length_take]at hal;have HLn:=qd (show(allP (l0.take j)).length≤200 by omega);have HDs:=qd (dupN_step hq);subst hA;clear hc hq hbr hal;go_upto_region 10 with fail;refine nameW (F:=fun v=>Blk v wr.heap.size 35 #[.int .u64 (q.1:Int),.int .u64 (q.2:Int)]∧Below wr.heap.size wr v) ⟨Blk.new wr 35 #[.int .u64 (q.1:Int),.int .u64 (q.2:Int)],(Below.refl wr.heap.size wr).alloc (Nat.le_refl _) _⟩ ?_;rintro w6 ⟨hB6,hb6⟩;obtain⟨F6,hF6⟩:=HF.out;have hF6':=hF6.below hb6;have HG:=qd (pl_Get hF6' (by have:=HLn.out;omega) q.1);have HF6:=qd hF6';have HB6:=qd (HB4.out.trans (hb6.mono HB4.out.size));obtain⟨bx,hbx⟩:∃bx,bx=wr.heap.size:=⟨_,rfl⟩;have HBx:=qd (show bx∉F6 from fun hq=>by have:=(hF6.lts bx hq).1;omega);rw[←hbx]at hB6⊢;have x0:=hB6.cell 0;simp only[gl]at x0;have HX6:=qd hB6;clear hB6 hb6 hbx hF6 hF6' HF HB4 r0 r1;go_wp2_with fail;refine HG.out.mono ?_;rintro y w7 ⟨rfl,hb7⟩;have hF7:=HF6.out.below hb7
   have hX7:=HX6.out.below hb7 HX6.out.lt;obtain⟨x0,x1⟩:=hX7.c2;have HPu:=qd (pl_Put hF7 (by have:=HLn.out;omega) q.1 q.2 (fun _=>by have:=HLn.out;omega) (by omega));have HB7:=qd (HB6.out.trans (hb7.mono HB6.out.size));have HF7:=qd hF7;obtain⟨nx,hnx⟩:∃nx,nx=dupN (l0.take (j+1)):=⟨_,rfl⟩;have HNx:=qd hnx;rw[HDs.out]at hnx;have HM:=qd (show l0.length-(j+1)<l0.length-j by omega);clear hb7 hF7 hX7 HB6 HF6 HG HX6
   cases hg:(getP (allP (l0.take j)) q.1).isSome with
   |true=>
    rw[hg,if_pos rfl]at hnx;clear hg;go_wp2_with fail;refine HPu.out.mono ?_;rintro y w8 ⟨rfl,F8,hF8,hs8,hm8⟩;have HF8:=qd (show∃F,PlF w3.heap.size w8 fb 1000 F (allP (l0.take (j+1)))from⟨F8,by rw[HTk.out];exact hF8⟩);have HB8:=qd (HB7.out.trans (hm8.below (fun q hq=>(HF7.out.lts q hq).2) HB7.out.size));clear hF8 hs8 hm8 HPu HB7 HF7;go_wp2;go_roundw
    case measure=>simp[intOf];exact HM.out
    exact⟨j+1,by omega,rfl,by rw[←HNx.out,hnx];rfl,HF8,HB8⟩
   |false=>
    rw[hg,if_neg (by decide)]at hnx;clear hg;go_wp2_with fail;refine HPu.out.mono ?_;rintro y w8 ⟨rfl,F8,hF8,hs8,hm8⟩;have HF8:=qd (show∃F,PlF w3.heap.size w8 fb 1000 F (allP (l0.take (j+1)))from⟨F8,by rw[HTk.out];exact hF8⟩);have HB8:=qd (HB7.out.trans (hm8.below (fun q hq=>(HF7.out.lts q hq).2) HB7.out.size));clear hF8 hs8 hm8 HPu HB7 HF7;go_wp2;go_roundw
    case measure=>simp[intOf];exact HM.out
    exact⟨j+1,by omega,rfl,by rw[←HNx.out,hnx],HF8,HB8⟩
  ·obtain rfl:j=l0.length:=by omega
   have hlt':¬(l0.length:Int)<(l0.length:Int):=by omega
   rw[List.take_length];have HFn:=qd (show∃F,PlF w3.heap.size wr fb 1000 F (allP l0)from by have h:=HF.out;rwa [List.take_length]at h);have HBw:=qd (HB3.out.trans (HB4.out.mono HB3.out.size));clear HF hlt hj;by_cases hkb:kind<0∨5<kind
   ·have hbd:bd=14:=by rw[HBd.out.1];unfold loadF;rw[if_pos hkb]
    obtain rfl:p=none:=HP.out.1 (by rw[hbd];decide);have HNm:=qd (show Calls Tryz.prog 9 #[errV E 14] wr (fun e w'=>e= .returned (.int .i64 14)∧Below wr.heap.size wr w')from num_any (HX.out.2.2.1.below HBw.out (Nat.le_refl _)) 14 (by omega));have hxc:=HC3.out.below HB4.out HC3.out.lt;obtain⟨x0,x1,x2⟩:=hxc.c3;clear hxc;rw[hbd]
    have hh:kind<0∨(¬kind<0∧5<kind):=by omega
    rcases hh with h1|⟨h1,h2⟩
    ·go_wp2_with fail;refine HNm.out.mono ?_;rintro y w5 ⟨rfl,hb5⟩;have HB5:=qd (HBw.out.trans (hb5.mono HBw.out.size));have HHs:=qd (snap_Hashed_bad ((HX.out.2.2.1.at_ 14 (by omega) (by omega)).below HB5.out (Nat.le_refl _)) A0 l0.length c0 kind hkb);clear hb5 HNm;go_wp2_with fail;refine HHs.out.mono ?_;rintro y w6 ⟨rfl,hb6⟩;have HB6:=qd (HB5.out.trans (hb6.mono HB5.out.size));have HNo:=qd (show Calls Tryz.prog 9 #[errV E 14] w6 (fun e w'=>e= .returned (.int .i64 14)∧Below w6.heap.size w6 w')from num_any (HX.out.2.2.1.below HB6.out (Nat.le_refl _)) 14 (by omega));clear hb6 HHs HB5;go_wp2_with fail;refine HNo.out.mono ?_;rintro y w7 ⟨rfl,hb7⟩;have HB7:=qd (HB6.out.trans (hb7.mono HB6.out.size));clear hb7 HNo HB6;go_wp2;go_ret;exact⟨rfl,HB7.out⟩
    ·go_wp2_with fail;refine HNm.out.mono ?_;rintro y w5 ⟨rfl,hb5⟩;have HB5:=qd (HBw.out.trans (hb5.mono HBw.out.size));have HHs:=qd (snap_Hashed_bad ((HX.out.2.2.1.at_ 14 (by omega) (by omega)).below HB5.out (Nat.le_refl _)) A0 l0.length c0 kind hkb);clear hb5 HNm;go_wp2_with fail;refine HHs.out.mono ?_;rintro y w6 ⟨rfl,hb6⟩;have HB6:=qd (HB5.out.trans (hb6.mono HB5.out.size));have HNo:=qd (show Calls Tryz.prog 9 #[errV E 14] w6 (fun e w'=>e= .returned (.int .i64 14)∧Below w6.heap.size w6 w')from num_any (HX.out.2.2.1.below HB6.out (Nat.le_refl _)) 14 (by omega));clear hb6 HHs HB5;go_wp2_with fail;refine HNo.out.mono ?_;rintro y w7 ⟨rfl,hb7⟩;have HB7:=qd (HB6.out.trans (hb7.mono HB6.out.size));clear hb7 HNo HB6;go_wp2;go_ret;exact⟨rfl,HB7.out⟩
   ·obtain⟨kq,hkq⟩:∃kq:Nat,kind=(kq:Int):=⟨kind.toNat,by omega⟩;subst hkq
    have n1:¬(kq:Int)<0:=by omega
    have n2:¬(5:Int)<(kq:Int):=by omega
    obtain⟨dn,hdn⟩:∃dn,dn=dupN l0:=⟨_,rfl⟩;rw[←hdn]
    obtain⟨cB,hcB⟩:∃cB:Nat,cB=if cfgOk k m i=true then 0 else 1:=⟨_,rfl⟩
    have HcB:=qd (show cB≤1 from by rw[hcB];split<;>omega)
    have HBd2:=qd (show bd=if((if dn=0 then cB else dn)=0∧m<(l0.length:Int))then 2 else(if dn=0 then cB else dn)from by
     rw[HBd.out.1,hdn,hcB];unfold loadF loadE dupN;rw[if_neg hkb];by_cases g1:(l0.map Prod.fst).Nodup
     ·by_cases g2:cfgOk k m i=true
      ·by_cases g3:m<(l0.length:Int)<;>simp[g1,g2,g3]
      ·simp[g1,g2]
     ·simp[g1])
    have HDn:=qd (show dn=0∨dn=16 from by rw[hdn];unfold dupN;split<;>simp)
    have HCk:=qd (fun(W:World) (hb:Below w.heap.size w W)=>show Calls Tryz.prog 10 #[cfgV k m i] W (fun e w'=>e= .returned (errV E cB)∧Below W.heap.size W w')from by
     have h:=plan_Check k m i W (HX.out.2.1.next hb).errs;rw[hcB]
     cases hc:cfgOk k m i with
     |true=>rw[hc,if_pos rfl]at h;rw[if_pos rfl];exact h
     |false=>rw[hc,if_neg (by decide)]at h;rw[if_neg (by decide)];exact h)
    unfold cfgV at HCk;clear hdn hcB;go_upto_if 66 with fail
    go_cut [9]from 59 (fun v9 wx=>v9= .int .i64 ((if dn=0 then cB else dn:Nat):Int)∧Hid (Below wr.heap.size wr wx))
    case first=>
     rcases HDn.out with hd0|hd0
     ·have hxc:=HC3.out.below HB4.out HC3.out.lt;obtain⟨x0,x1,x2⟩:=hxc.c3;have HCq:=qd (HCk.out wr HBw.out);rw[hd0];clear hxc;go_wp2_with fail;refine HCq.out.mono ?_;rintro y w5 ⟨rfl,hb5⟩;have HB5:=qd hb5;have HNm:=qd (num_any (HX.out.2.2.1.below (HBw.out.trans (hb5.mono HBw.out.size)) (Nat.le_refl _)) cB (by have:=HcB.out;omega));clear hb5 HCq;go_wp2_with fail;refine HNm.out.mono ?_;rintro y w6 ⟨rfl,hb6⟩;have HB6:=qd (HB5.out.trans (hb6.mono HB5.out.size));clear hb6 HNm;go_wp2;go_meet
      case rel=>exact⟨by rw[hd0];rfl,HB6⟩
     ·rw[hd0];go_wp2;go_meet
      case rel=>exact⟨by rw[hd0];rfl,qd (Below.refl _ _)⟩
    case rest=>
     obtain⟨rfl,HBx⟩:=hcut;obtain⟨bB,hbB⟩:∃bB,bB=(if dn=0 then cB else dn):=⟨_,rfl⟩;rw[←hbB]at HBd2⊢;have HB4x:=qd (HB4.out.trans (HBx.out.mono HB4.out.size));have HBwx:=qd (HBw.out.trans (HBx.out.mono HBw.out.size));have HFx:=qd (show∃F,PlF w3.heap.size wc fb 1000 F (allP l0)from by obtain⟨F,hF⟩:=HFn.out;exact⟨F,hF.below HBx.out⟩);clear hbB HB4 HBw HFn HBx HCk HcB HDn;go_upto_region 20 with fail
     go_cut [9,78]from 59 (fun v9 v78 wx=>v9= .int .i64 (bB:Int)∧v78= .bool (decide (bB=0∧m<(l0.length:Int)))∧wx=wc)
     case first=>
      have hxc:=HC3.out.below HB4x.out HC3.out.lt;have x1:=hxc.cell 1;simp only[gl]at x1;clear hxc;by_cases hb0:bB=0
      ·have hb0':(bB:Int)=0:=by omega
       have hb0q:((bB:Int)==0)=true:=by rw[hb0'];rfl
       by_cases hm0:m<(l0.length:Int)
       ·go_wp2;go_meet
        case rel=>exact⟨by rw[hb0];rfl,by simp[hb0,hm0],rfl⟩
       ·go_wp2;go_meet
        case rel=>exact⟨by rw[hb0];rfl,by simp[hb0,hm0],rfl⟩
      ·have hb0':¬(bB:Int)=0:=by omega
       have hb0q:((bB:Int)==0)=false:=by simp[hb0]
       go_wp2;go_meet
       case rel=>exact⟨rfl,by simp[hb0],rfl⟩
     case rest=>
      obtain⟨rfl,rfl,rfl⟩:=hcut;go_upto_if 78 with fail
      go_cut [9]from 59 (fun v9 wx=>v9= .int .i64 (bd:Int)∧wx=wc)
      case first=>
       by_cases hq:bB=0∧m<(l0.length:Int)
       ·have HQ:=qd hq;rw[decide_eq_true hq];clear hq;go_wp2;go_meet
        case rel=>exact⟨by rw[HBd2.out,if_pos HQ.out];rfl,rfl⟩
       ·have HQ:=qd hq;rw[decide_eq_false hq];clear hq;go_wp2;go_meet
        case rel=>exact⟨by rw[HBd2.out,if_neg HQ.out],rfl⟩
      case rest=>
       obtain⟨rfl,rfl⟩:=hcut;have HEr:=qd (fun(W:World) (hb:Below w.heap.size w W) (j:Nat) (hj:j≤16)=>num_any (HX.out.2.2.1.below hb (Nat.le_refl _)) j hj);go_upto_region 22 with fail
       go_cut [89]from 59 (fun v89 wx=>v89= .bool false∧Hid (Below wc.heap.size wc wx))
       case first=>
        have HNm:=qd (HEr.out wc HBwx.out bd HBd.out.2);by_cases hb0:bd=0
        ·obtain⟨b,G,hp,_⟩:=HP.out.2.1 hb0;subst hp
         have hb0q:((bd:Int) !=0)=false:=by simp[hb0]
         have hb0r:decide ((bd:Int)=0)=true:=by simp[hb0]
         clear hb0;go_wp2_with fail;refine HNm.out.mono ?_;rintro y w5 ⟨rfl,hb5⟩;have HB5:=qd hb5;clear hb5 HNm;go_wp2;go_meet
         case rel=>exact⟨by first|rfl|simp[hb0q],HB5⟩
        ·obtain rfl:=HP.out.1 hb0
         have hb0q:((bd:Int) !=0)=true:=by simp[hb0]
         have hb0r:decide ((bd:Int)=0)=false:=by simp[hb0]
         clear hb0;go_wp2_with fail;refine HNm.out.mono ?_;rintro y w5 ⟨rfl,hb5⟩;have HB5:=qd hb5;clear hb5 HNm;go_wp2;go_meet
         case rel=>exact⟨by first|rfl|simp[hb0q],HB5⟩
       case rest=>
        obtain⟨rfl,HBy⟩:=hcut;have HBa:=qd (HBwx.out.trans (HBy.out.mono HBwx.out.size));have HB3a:=qd (HB4x.out.trans (HBy.out.mono HB4x.out.size));have HFa:=qd (show∃F,PlF w3.heap.size wc fb 1000 F (allP l0)from by obtain⟨F,hF⟩:=HFx.out;exact⟨F,hF.below HBy.out⟩);clear HBy HBwx HB4x HFx HC3 HBd2
        have HHs:=qd (snap_Hashed (c:=c0) ((⟨HL.out.1,fun hn=>by
         obtain⟨b,off,h1,h2,h3⟩:=HL.out.2 hn
         exact⟨b,off,h1,h2,fun j u hu=>cell_in HBa.out (h3 j u hu)⟩⟩:Reads wc w.heap.size 2 A0 l0.length (l0.flatMap pairC))) (by omega) (fun p hp=>(HX.out.1 p hp).1) kq (by omega) (HX.out.2.2.2.below HBa.out))
        go_wp2_with fail;refine HHs.out.mono ?_;rintro y w5 ⟨v5,rfl,ho5,hb5⟩;obtain⟨A5,c5,rfl⟩:=own_form ho5;have HO5:=qd ho5;have HB5:=qd (HBa.out.trans (hb5.mono HBa.out.size));have HB35:=qd (HB3a.out.trans (hb5.mono HB3a.out.size));have HF5:=qd (show∃F,PlF w3.heap.size w5 fb 1000 F (allP l0)from by obtain⟨F,hF⟩:=HFa.out;exact⟨F,hF.below hb5⟩);have HBr:=qd (Below.refl w5.heap.size w5);clear ho5 hb5 HHs HBa HB3a HFa;go_wp2;go_loopw [121] (fun v121 wr=>∃j:Nat,j≤l0.length∧v121= .int .i64 (j:Int)∧Hid (Below w5.heap.size w5 wr)) (fun v121 _=>l0.length-(intOf v121).toNat)
        case atStart=>exact⟨0,by omega,rfl,HBr⟩
        case round=>
         clear HBr;obtain⟨j,hj,rfl,HBr⟩:=hrel;by_cases hlt:j<l0.length
         ·have hlt':(j:Int)<(l0.length:Int):=by omega
          have hj0:(0:Int)≤(j:Int):=by omega
          have hwj:IntKind.i64.wrap ((j:Int)+1)=((j+1:Nat):Int):=by rw[IntKind.wrap_i64];omega
          obtain⟨q,hq⟩:∃q,l0[j]?=some q:=⟨_,List.getElem?_eq_getElem hlt⟩
          have hqe:(l0.map (entM kq))[j]?=some (entM kq q):=by rw[List.getElem?_map,hq];rfl
          obtain⟨g,off,hA,hgl,hc⟩:=(Reads.of_own (own_below HO5.out HBr.out (Nat.le_refl _))).2 (by omega);have r0:wr.cell? ⟨g,off+j*3,none⟩=some (.int .u64 (q.1:Int)):=hc (j*3+0) _ (entCells_at hqe (by omega));have r1:wr.cell? ⟨g,off+j*3+1,none⟩=some (.int .u64 (q.2:Int)):=hc (j*3+1) _ (entCells_at hqe (by omega));have r2:wr.cell? ⟨g,off+j*3+2,none⟩=some (.int .u64 (mixH kq q.1:Int)):=hc (j*3+2) _ (entCells_at hqe (by omega));have HQ:=qd (And.intro hq (HX.out.1 q (List.mem_of_getElem? hq)));subst hA;clear hc hq hqe;go_upto_region 32 with fail;refine nameW (F:=fun v=>Blk v wr.heap.size 45 #[.int .u64 (q.1:Int),.int .u64 (q.2:Int),.int .u64 (mixH kq q.1:Int)]∧Below wr.heap.size wr v) ⟨Blk.new wr 45 #[.int .u64 (q.1:Int),.int .u64 (q.2:Int),.int .u64 (mixH kq q.1:Int)],(Below.refl wr.heap.size wr).alloc (Nat.le_refl _) _⟩ ?_;rintro w6 ⟨hB6,hb6⟩;obtain⟨bx,hbx⟩:∃bx,bx=wr.heap.size:=⟨_,rfl⟩;rw[←hbx]at hB6⊢;have x0:=hB6.cell 0;simp only[gl]at x0;have HX6:=qd hB6;have HB6:=qd (HBr.out.trans (hb6.mono HBr.out.size));have HOf:=qd (ref29_Of kq q.1 HQ.out.2.1 (by omega) w6);clear hB6 hb6 hbx HBr r0 r1 r2;go_wp2_with fail;refine HOf.out.mono ?_;rintro y w7 ⟨rfl,hb7⟩;have hX7:=HX6.out.below hb7 HX6.out.lt;obtain⟨x0,x1,x2⟩:=hX7.c3;have HB7:=qd (HB6.out.trans (hb7.mono HB6.out.size));obtain⟨g0,off0,hA0,hgl0,hc0⟩:=HL.out.2 (by omega);have hbr:=HB5.out.trans (HB7.out.mono HB5.out.size)
          have c0:w7.cell? ⟨g0,off0+j*2,none⟩=some (.int .u64 (q.1:Int)):=cell_in hbr (hc0 (j*2+0) _ (pairC_at HQ.out.1 (by omega)));have c1:w7.cell? ⟨g0,off0+j*2+1,none⟩=some (.int .u64 (q.2:Int)):=cell_in hbr (hc0 (j*2+1) _ (pairC_at HQ.out.1 (by omega)));subst hA0;have HM:=qd (show l0.length-(j+1)<l0.length-j by omega);clear hb7 hX7 HX6 HB6 HOf hc0 hbr;go_upto_region 33 with fail;go_quiet (fail);go_wp2;go_roundw
          case measure=>simp[intOf];exact HM.out
          exact⟨j+1,by omega,rfl,qd (by first|exact HB7.out|exact HB7.out.drew|exact below_drewN HB7.out _)⟩
         ·obtain rfl:j=l0.length:=by omega
          have hlt':¬(l0.length:Int)<(l0.length:Int):=by omega
          have HBw2:=qd (HB5.out.trans (HBr.out.mono HB5.out.size));have HB3w:=qd (HB35.out.trans (HBr.out.mono HB35.out.size));by_cases hb0:bd=0
          ·obtain⟨b,G,hp,hcf,hnd,⟨R,hR,hR2⟩,hG⟩:=HP.out.2.1 hb0;subst hp;subst hb0;rw[errV_zero];have hRw:=hR.below HB3w.out;have HG3:=qd (show∀q∈G,q<w3.heap.size∧w.heap.size≤q from fun q hq=>⟨(hR.lts q hq).1,Nat.le_trans HP.out.2.2 (hG q hq)⟩);have HTk:=qd (mp_Take hRw (cfg_natS hcf).2.1 (Nat.zero_le _) (HX.out.2.2.1.at_ 6 (by omega) (by omega)));have HRR:=qd (And.intro hnd hR2);have HFw:=qd (show∃F,PlF w3.heap.size wr fb 1000 F (allP l0)from by obtain⟨F,hF⟩:=HF5.out;exact⟨F,hF.below HBr.out⟩);clear hcf hnd hR hR2 hG hRw hlt hlt' HO5 HBr HB35 HB5 HF5;go_wp2_with fail;refine HTk.out.mono ?_;rintro y w8 ⟨vt,lt,Gt,rfl,hta,htg,hto,htap,htm,hts,htM⟩;obtain rfl:lt=allP l0:=fn_getPG (allP_asc _) hta htg (fun k u=>(HRR.out.2 k u).trans ((allP_mem HRR.out.1).1 (k,u)).symm);obtain⟨At,ct,rfl⟩:=own_form hto;have HB8:=qd (HBw2.out.trans (htM.below (fun q hq=>(HG3.out q hq).2) HBw2.out.size));obtain⟨Ff,hFf⟩:=HFw.out;have hF8:=hFf.mod htM (fun q hq hg=>absurd (HG3.out q hq).1 (Nat.not_lt.2 (hFf.lts q hg).2));have HF8:=qd hF8;have HT8:=qd hto;have HM8:=qd htm;have HTn:=qd (snap_Take_nil ((HX.out.2.2.1.at_ 4 (by omega) (by omega)).below HB8.out (Nat.le_refl _)));clear hta htg hto htap htm hts htM hFf hF8 HTk HFw HBw2 HB3w;go_wp2_with fail;refine HTn.out.mono ?_;rintro y w9 ⟨rfl,hb9⟩;have hle:=allP_leG l0;have HB9:=qd (HB8.out.trans (hb9.mono HB8.out.size));have HT9:=qd (own_below HT8.out hb9 (Nat.le_refl _));have HM9:=qd (HM8.out.below hb9)
           have HPr:=qd (pl_Pairs (HF8.out.below hb9) (by omega));clear hb9 HTn HF8 HT8 HM8 HB8;go_wp2_with fail;refine HPr.out.mono ?_;rintro y w10 ⟨vp,rfl,hop,hb10⟩;obtain⟨Ap,cp,rfl⟩:=own_form hop;have HB10:=qd (HB9.out.trans (hb10.mono HB9.out.size));have HM10:=qd (HM9.out.below hb10);have hsm:=pl_Same (c:=ct) (c':=cp) (Reads.of_own (own_below HT9.out hb10 (Nat.le_refl _))) (Reads.of_own hop) (by omega);rw[decide_eq_true (rfl:allP l0=allP l0)]at hsm;have HSm:=qd hsm;clear hop hb10 hsm HPr HT9 HM9 HB9;go_wp2_with fail;refine HSm.out.mono ?_;rintro y w11 ⟨rfl,hb11⟩;have HB11:=qd (HB10.out.trans (hb11.mono HB10.out.size));have HIt:=qd (rt_Iters_none (HM10.out.below hb11));clear hb11 HSm HM10 HB10;go_wp2_with fail;refine HIt.out.mono ?_;rintro y w12 ⟨rfl,hb12⟩;have HB12:=qd (HB11.out.trans (hb12.mono HB11.out.size));have HN4:=qd (show Calls Tryz.prog 9 #[errV E 4] w12 (fun e w'=>e= .returned (.int .i64 4)∧Below w12.heap.size w12 w')from HEr.out w12 HB12.out 4 (by omega));clear hb12 HIt HB11;go_wp2_with fail;refine HN4.out.mono ?_;rintro y w13 ⟨rfl,hb13⟩;have HB13:=qd (HB12.out.trans (hb13.mono HB12.out.size));clear hb13 HN4 HB12;go_wp2;go_ret;exact⟨rfl,HB13.out⟩
          ·have hb0':¬(bd:Int)=0:=by omega
           have hb0q:((bd:Int) !=0)=true:=by simp[hb0]
           go_wp2;go_ret;exact⟨rfl,HBw2.out⟩
end
section
variable {s : ChangeSpec} {again apart fresh handsOn : Bool} {P : Program} {W : World}
section
variable {H : Type} {enc : TypeId × Value → H}
theorem returnsLaid {a:Assume}{C:Checked}{os:Os}{f:FuncId}{fn:Func}{conds:List PathCond}{X:World→Array Value→Prop}(hX:∀(w w':World) (args:Array Value),w.heap=w'.heap→X w args→X w' args)(own:ownKnob C.prog.godebug=none)(started:os.Started)(noInit:C.prog.inits.idxOf? f=none)(hfn:C.prog.funcs[f]?=some fn)(witness:∃(w:World) (tape:Tape) (i:Input),w.os=os∧(w.forCall tape i).Shaped C.prog∧i.vars=[]∧Input.okWide C.prog (w.forCall tape i) .any w.heap.size f i∧
   ((s.pre enc C.prog fn conds apart (w.forCall tape i).memory i.args∧X (w.forCall tape i).memory i.args)∧sizedMet enc C.prog fn (OpenSpec.ofChange s) apart (w.forCall tape i).memory i.args)∧a.holds C.prog (lone (Frame.enter C.prog f i.args .normal) [] (w.forCall tape i))) (contract:∀(W:World) (base:Nat) (args:Array Value) (ds gs:List (DataW H)) (before:List MemPlace),
   (∀(j:Nat) t v,fn.params[j]?=some t→args[j]?=some v→Value.okWide C.prog W .any base t v)→
   DataW.Whole enc C.prog fn.params.toList s.vars apart W args.toList ds gs before→
   (DataW.weightsEach C.prog (fn.params.toList++s.plain.varTypes C.prog) (ds++gs)).all (·≤reachBytes)=true→X W args→W.ShapedOpen C.prog→
   Calls C.prog f args W fun e W'=>∃v,e= .returned v∧s.post enc C.prog fn apart fresh handsOn again W args v W'):
  ReturnsInHanded a C os f .any (fun w args=>(s.pre enc C.prog fn conds apart w args∧X w args)∧sizedMet enc C.prog fn (OpenSpec.ofChange s) apart w args) (s.post enc C.prog fn apart fresh handsOn again):=by
 refine returnsInHanded_of_calls own started noInit witness ?_;intro w tape i _ hsh _ hok hpre hholds;obtain⟨_,_,_,fn',hfn',_,_,_,_,hval⟩:=hok;have e:fn'=fn:=Option.some.inj (hfn'.symm.trans hfn);subst e;obtain⟨⟨⟨ds,gs,before,hw,hc⟩,hx⟩,hz⟩:=hpre;have hw':=DataW.Whole.of_heap (w':=w.forCall tape i) (by rfl) hw;refine(contract (w.forCall tape i) w.heap.size i.args ds gs before hval hw' (hz.weights hw) (hX _ _ _ (by rfl) hx) hsh).mono fun e W' ⟨v,he,hp⟩=> ?_;subst he;exact ChangeSpec.post_blind hp
theorem post_of_below {f:Func}{W':World}{args:Array Value}{v:Value}{ds gs:List (DataW H)}{before pa pv:List MemPlace}(hW:DataW.Whole enc P f.params.toList s.vars apart W args.toList ds gs before)(hres:∀(b:Nat) (sp:Nat→Bool) (hd:Bool),DataW.TrodAll enc P W' b sp hd f.resultTypes.toList (v.resultList f.resultTypes.size) (s.fn H (ds++gs)).results [])(hargs:∀sp:Nat→Bool,(∀p∈before,sp p.block=true)→DataW.TrodAll enc P W' 0 sp true f.params.toList args.toList (s.fn H (ds++gs)).args pa)(hvars:∀sp:Nat→Bool,(∀p∈before,sp p.block=true)→DataW.TrodVars enc P W' sp s.vars (s.fn H (ds++gs)).vars pv)(hps:before=pa++pv)(hb:Below W.heap.size W W')(hok:∀(j:Nat) (t:TypeId) (r:Value),f.resultTypes[j]?=some t→(v.resultList f.resultTypes.size)[j]?=some r→Value.okWide P W' .any 0 t r):
  s.post enc P f apart fresh handsOn again W args v W':=by
 have hlt:∀p∈before,p.block<W.heap.size:=fun p hp=>hW.lt p hp
 have hold:∀p∈before,(fun b=>decide (b<W.heap.size)) p.block=true:=fun p hp=>by simpa using hlt p hp
 refine⟨ds,gs,before,[],pa,pv,hW,hres _ _ _,hargs _ hold,hvars _ hold,World.keptBut_mono (fun p hp=>⟨hp, ?_⟩) (hb.frame (·∈before)),fun _=> ?_⟩
 ·rw[hps,List.mem_append]at hp;exact Or.inr hp
 ·obtain⟨_,_,_,_,_,hz,hn⟩:=hW;refine⟨hok,_,_,([]++pa)++pv,⟨[]++pa,pv,trodAll_append (hargs _ (fun _ _=>rfl)) (hres _ _ _),hvars _ (fun _ _=>rfl),rfl, ?_, ?_⟩, ?_⟩
  ·intro b off hp
   have hin:MemPlace.cell b off∈before:=by rw[hps];simpa using hp
   rw[hb.frozen (hlt _ hin)];exact hz b off hin
  ·intro ha;have:=hn ha;rw[hps]at this;simpa using this
  ·intro p hp _;rw[hps];simpa using hp
end
def errD (text:List UInt8):DataW Unit:= .iface "*errors.errorString" (.ptr (.agg [.lit (.string text)]))
theorem laid_parts:∀(l:List (String×DataW Unit)) (ps:List MemPlace),DataW.LaidVars P W l ps→
  ∃pl:List (List MemPlace),ps=pl.flatten∧pl.length=l.length∧∀(i:Nat) (n:String) (d:DataW Unit),l[i]?=some (n,d)→
   ∃g t cs fuel p,P.globalNamed n=some g∧(P.globals[g]?).map (·.type)=some t∧W.var? P n=some cs∧DataW.trod (fun _=>()) P W 0 (fun _=>true) false fuel t cs.toList=some (d,p)∧
    pl[i]?=some (MemPlace.row ⟨g,0,none⟩ cs.size++p)
 | [],ps,h=>⟨[],by simpa[DataW.LaidVars]using h,rfl,fun i n d hi=>by simp at hi⟩
 |(n,d)::r,ps,h=>by
  obtain⟨g,t,cs,fuel,p,q,h1,h2,h3,h4,h5,rfl⟩:=h;obtain⟨pl,e1,e2,e3⟩:=laid_parts r q h5;refine⟨(MemPlace.row ⟨g,0,none⟩ cs.size++p)::pl,by rw[List.flatten_cons,←e1],by simp[e2],fun i n' d' hi=> ?_⟩
  cases i with
  |zero=>
   simp only[List.getElem?_cons_zero,Option.some.injEq,Prod.mk.injEq]at hi;obtain⟨rfl,rfl⟩:=hi;exact⟨g,t,cs,fuel,p,h1,h2,h3,h4,rfl⟩
  |succ i=>exact e3 i n' d' (by simpa using hi)
theorem star: "*" ++ "errors.errorString" = "*errors.errorString" :=by decide
theorem typeName_err (u:TypeId)(h:Tryz.prog.typeName? 3 u=some "*errors.errorString"):u=346 :=
 typeName_ptr_named (nm:= "errors.errorString") (by rw[star];kernel_rfl) (by kernel_rfl) (by decide) u (by rw[star];exact h)
theorem flatten_apart {α:Type}:∀(pl:List (List α)),pl.flatten.Nodup→∀(i j:Nat) (p q:List α) (x:α),i<j→pl[i]?=some p→pl[j]?=some q→x∈p→x∈q→False
 | [],_,i,j,p,q,x,_,h,_,_,_=>by simp at h
 |r::pl,hn,i,j,p,q,x,hij,hi,hj,hp,hq=>by
  rw[List.flatten_cons,List.nodup_append]at hn;obtain⟨j,rfl⟩:∃j',j=j'+1:=⟨j-1,by omega⟩;rw[List.getElem?_cons_succ]at hj
  cases i with
  |zero=>
   simp only[List.getElem?_cons_zero,Option.some.injEq]at hi;subst hi;exact hn.2.2 x hp x (List.mem_flatten.2 ⟨q,List.mem_of_getElem? hj,hq⟩) rfl
  |succ i=>
   rw[List.getElem?_cons_succ]at hi;exact flatten_apart pl hn.2.1 i j p q x (by omega) hi hj hp hq
theorem errsIn_of_laid {l:List (String×DataW Unit)}(h:laidMet Tryz.prog l W)(p:Nat)(hpos:∀k,k<16→∃n text,l[p+k]?=some (n,errD text)∧Tryz.prog.globalNamed n=some (gE (k+1))∧(Tryz.prog.globals[gE (k+1)]?).map (·.type)=some 28):∃E,ErrsIn E W:=by
 obtain⟨ps,hv,hnd,hrows⟩:=h;obtain⟨pl,e1,e2,e3⟩:=laid_parts l ps hv
 have H:∀k,1≤k∧k≤16→∃(a:Addr),W.cell? ⟨gE k,0,none⟩=some (.iface 346 (.pointer (some a)))∧(∃c t,W.heap[a.block]?=some (.cells c t (0,0)))∧∃q,pl[p+(k-1)]?=some q∧MemPlace.cell a.block a.off∈q:=by
  rintro k ⟨hk1,hk2⟩;obtain⟨n,text,hl,hg,ht⟩:=hpos (k-1) (by omega);rw[show k-1+1=k by omega]at hg ht;obtain⟨g,t,cs,fuel,p',h1,h2,h3,h4,h5⟩:=e3 _ _ _ hl;obtain rfl:=Option.some.inj (hg.symm.trans h1);obtain rfl:=Option.some.inj (ht.symm.trans h2)
  have hmem:∀x∈MemPlace.row ⟨gE k,0,none⟩ cs.size++p',x∈ps:=by
   intro x hx;rw[e1];exact List.mem_flatten.2 ⟨_,List.mem_of_getElem? h5,hx⟩
  obtain⟨l0⟩:=cs
  have ok0:∀u v,l0=[.iface u v]→Value.okWide Tryz.prog W .any 0 u v:=fun u v e=>by
   subst e;exact(hrows (gE k) 0 (hmem _ (by simp[MemPlace.row]))).2 u v (by simpa using World.var?_cell hg h3 0)
  obtain⟨a0,s0,rfl,hc0,hs0,hz0,rfl⟩:=errorString_of_trod Tryz.underlying28 typeName_err Tryz.underlying346 Tryz.underlying384 rfl rfl Tryz.underlying9 (by kernel_rfl) (by kernel_rfl) h4 ok0;refine⟨a0,by simpa using World.var?_cell hg h3 0,(hrows a0.block a0.off (hmem _ (by simp[MemPlace.row]))).1,_,h5, ?_⟩;simp[MemPlace.row]
 refine⟨fun k=>if h:1≤k∧k≤16 then Classical.choose (H k h)else default,⟨fun k h1 h2=> ?_,fun k h1 h2=> ?_,fun j k h1 h2 h3 h4 e=> ?_⟩⟩
 ·have hk:1≤k∧k≤16:=⟨h1,h2⟩;simp only[hk,and_self,dif_pos];exact(Classical.choose_spec (H k hk)).1
 ·have hk:1≤k∧k≤16:=⟨h1,h2⟩;simp only[hk,and_self,dif_pos];exact(Classical.choose_spec (H k hk)).2.1
 ·have hj:1≤j∧j≤16:=⟨h1,h2⟩;have hk:1≤k∧k≤16:=⟨h3,h4⟩;simp only[hk,hj,and_self,dif_pos]at e;obtain⟨q1,hq1,hx1⟩:=(Classical.choose_spec (H j hj)).2.2;obtain⟨q2,hq2,hx2⟩:=(Classical.choose_spec (H k hk)).2.2;rw[e]at hx1;rw[e1]at hnd;rcases Nat.lt_trichotomy (p+(j-1)) (p+(k-1))with hlt|heq|hgt
  ·exact(flatten_apart pl hnd _ _ _ _ _ hlt hq1 hq2 hx1 hx2).elim
  ·omega
  ·exact(flatten_apart pl hnd _ _ _ _ _ hgt hq2 hq1 hx2 hx1).elim
theorem laid_drop:∀(k:Nat) (l:List (String×DataW Unit)),laidMet P l W→laidMet P (l.drop k) W
 |0,l,h=>by simpa using h
 |k+1,[],h=>by simpa using h
 |k+1,x::r,h=>laid_drop k r h.tail
end
def pickE (W:World)(k:Nat):Addr:=match W.cell? ⟨gE k,0,none⟩with
 |some (.iface _ (.pointer (some a)))=>a
 |_=>default
end Go.Proofs.YthfgacnlojmmfaaGreatDoor
