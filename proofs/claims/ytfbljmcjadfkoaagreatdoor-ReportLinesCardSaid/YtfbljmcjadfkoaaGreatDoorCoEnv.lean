/- report.Lines by its contract. No statement of the claim. -/
import Derived.Test.YtfbljmcjadfkoaaGreatDoorPaG
import Derived.Test.YtfbljmcjadfkoaaGreatDoorSq
import Derived.Test.YtfbljmcjadfkoaaGreatDoorPlD
import Derived.Test.YtfbljmcjadfkoaaGreatDoorSqM
import Derived.Test.YtfbljmcjadfkoaaGreatDoorSqT
import Derived.Test.YtfbljmcjadfkoaaGreatDoorTabS
namespace Go.Proofs.YtfbljmcjadfkoaaGreatDoor
set_option maxRecDepth 100000
set_option maxHeartbeats 8000000
open Go.RowKit Go.Shelf AmC AmL AmF AmD AmS Go
section
variable {w w' : World} {v : Value} {l : PL} {n : Nat}
def Rec (w:World)(v:Value)(l:PL)(n:Nat):Prop:=(v= .pointer none∧l=[]∧n=0)∨∃rb base F,v= .pointer (some ⟨rb,0,none⟩)∧PaR base w rb F l n
theorem Rec.below (h:Rec w v l n)(hb:Below w.heap.size w w'):Rec w' v l n:=by
 rcases h with h|⟨rb,base,F,h1,h2⟩
 ·exact .inl h
 ·exact .inr ⟨rb,base,F,h1,h2.below hb⟩
theorem rec_record (h:Rec w v l n):Calls Tryz.prog 24 #[v] w fun y w'=>∃rb base F,y= .returned (.pointer (some ⟨rb,0,none⟩))∧PaR base w' rb F l n∧Below w.heap.size w w':=by
 rcases h with⟨rfl,rfl,rfl⟩|⟨rb,base,F,rfl,h2⟩
 ·refine(report_record_nil w).mono ?_;rintro y w' ⟨rb,rfl,hr,hb⟩;exact⟨rb,_,_,rfl,hr,hb⟩
 ·refine(report_record rb w).mono ?_;rintro y w' ⟨rfl,rfl⟩;exact⟨rb,base,F,rfl,h2,Below.refl _ _⟩
def repV (c0 c1 c2 c3 c4 c5 c6 c7 n0 n1 n2 n3 n4 n5 n6 t0 t1 t2:Int)(u p:Value):Value:=
 .agg #[.int .i64 c0,.int .i64 c1,.int .i64 c2,.int .i64 c3,.int .i64 c4,.int .i64 c5,.int .i64 c6,.int .i64 c7,.int .i64 n0,.int .i64 n1,.int .i64 n2,u,p,.int .i64 n3,.int .i64 n4,.int .i64 n5,.int .i64 n6,.int .i64 t0,.int .i64 t1,.int .i64 t2]
def unitsB:Bts:=[117,110,105,116,115]
def probesB:Bts:=[112,114,111,98,101,115]
def linesB (cs ns:List Int)(l m:PL)(n k:Nat):List Bts:=(headC cs 8++headN ns 7)++[unitsB++32::rowB l n,probesB++32::rowB m k]
theorem rowB_len (h:PaOk l n):(rowB l n).length≤200:=by
 have h1:=most_le h;have h2:=sum_le l 0 (by omega);have z1:=Lib.itoa_length_le (mostP l:Int) (by omega) (by omega);have z2:=Lib.itoa_length_le (sumP l 0:Int) (by omega) (by omega);have z3:=textQ_len (meanQ l n);have z4:=textF_len (atW 4602678819172646912 l n);have z5:=textF_len (atW 4607092346807469998 l n);unfold rowB;simp only[List.length_append,List.length_cons];omega
theorem word_of_names {i:Nat}(h:i<8):wordOf ((i+1:Nat):Int)=names.getD (i+1) []:=by
 have:i=0∨i=1∨i=2∨i=3∨i=4∨i=5∨i=6∨i=7:=by omega
 rcases this with rfl|rfl|rfl|rfl|rfl|rfl|rfl|rfl<;>rfl
theorem names_next (h:NamesIn w)(hb:Below w.heap.size w w'):NamesIn w':=fun i hi=>(hb.cell (World.block_lt_of_cell? w _ (h i hi))).trans (h i hi)
theorem report_Lines {u p:Value}{m:PL}{k:Nat}(c0 c1 c2 c3 c4 c5 c6 c7 n0 n1 n2 n3 n4 n5 n6 t0 t1 t2:Int)(hc:∀z∈[c0,c1,c2,c3,c4,c5,c6,c7],i64B z)(hn:∀z∈[n0,n1,n2,n3,n4,n5,n6],i64B z)(hu:Rec w u l n)(hp:Rec w p m k)(hlu:PaOk l n)(hlp:PaOk m k)(hT:PowIn w)(hNm:NamesIn w):
  Calls Tryz.prog 9 #[repV c0 c1 c2 c3 c4 c5 c6 c7 n0 n1 n2 n3 n4 n5 n6 t0 t1 t2 u p] w fun y w'=>∃v,y= .returned v∧StrsOwn w' w.heap.size v (linesB [c0,c1,c2,c3,c4,c5,c6,c7] [n0,n1,n2,n3,n4,n5,n6] l m n k)∧Below w.heap.size w w':=by
 have HCs:=qd (show∀i,i<8→i64B ([c0,c1,c2,c3,c4,c5,c6,c7].getD i 0)from fun i hi=>hc _ (by rw[List.getD_eq_getElem?_getD,List.getElem?_eq_getElem (by simpa using hi)];exact List.getElem_mem _));have HNs:=qd (show∀i,i<7→i64B ([n0,n1,n2,n3,n4,n5,n6].getD i 0)from fun i hi=>hn _ (by rw[List.getD_eq_getElem?_getD,List.getElem?_eq_getElem (by simpa using hi)];exact List.getElem_mem _));have HIt:=qd (fun(z:Int) (hz:i64B z) (W:World) (hb:Below w.heap.size w W)=>itoa_any z hz.1 hz.2 W (pow_next hT hb));have HWd:=qd (fun(z:Int) (W:World) (hb:Below w.heap.size w W)=>word_names z W (names_next hNm hb));have HRu:=qd (fun(W:World) (hb:Below w.heap.size w W)=>rec_record (hu.below hb));have HRp:=qd (fun(W:World) (hb:Below w.heap.size w W)=>rec_record (hp.below hb));have HWu:=qd (fun(W:World) (hb:Below w.heap.size w W) (rb base:Nat) (F:List Nat) (h:PaR base W rb F l n)=>report_row h hlu (pow_next hT hb));have HWp:=qd (fun(W:World) (hb:Below w.heap.size w W) (rb base:Nat) (F:List Nat) (h:PaR base W rb F m k)=>report_row h hlp (pow_next hT hb));obtain⟨cs,hcs⟩:∃cs,cs=[c0,c1,c2,c3,c4,c5,c6,c7]:=⟨_,rfl⟩;obtain⟨ns,hns⟩:∃ns,ns=[n0,n1,n2,n3,n4,n5,n6]:=⟨_,rfl⟩;rw[←hcs]at HCs⊢;rw[←hns]at HNs⊢;have HCe:=qd hcs;have HNe:=qd hns;have HLu:=qd (rowB_len hlu);have HLp:=qd (rowB_len hlp);unfold repV;clear hc hn hcs hns hu hp hlu hlp hT hNm;go_in;go_upto_region 2 with fail
 refine nameW (F:=fun v=>Blk v w.heap.size 39 #[.int .i64 c0,.int .i64 c1,.int .i64 c2,.int .i64 c3,.int .i64 c4,.int .i64 c5,.int .i64 c6,.int .i64 c7,.int .i64 n0,.int .i64 n1,.int .i64 n2,u,p,.int .i64 n3,.int .i64 n4,.int .i64 n5,.int .i64 n6,.int .i64 t0,.int .i64 t1,.int .i64 t2]∧Below w.heap.size w v) ⟨Blk.new w 39 _,(Below.refl _ _).alloc (Nat.le_refl _) _⟩ ?_;rintro w1 ⟨hB1,hb1⟩;obtain⟨bx,hbx⟩:∃bx,bx=w.heap.size:=⟨_,rfl⟩;have HBe:=qd hbx;have HO:=qd (show StrsOwn w1 w.heap.size (.slice none 0 0) (headC cs 0)from World.ownsRow_nil _ _ _ _);rw[←hbx]at hB1⊢;have HBk:=qd hB1;have HBl:=qd hb1;clear hb1 hbx;obtain⟨x0,x1,x2,x3,x4,x5,x6,x7⟩:=hB1.c8;clear hB1;go_wp2;go_loopw [3,10] (fun v3 v10 wr=>∃i:Nat,i≤8∧v10= .int .i64 (i:Int)∧Hid (StrsOwn wr w.heap.size v3 (headC cs i))∧Hid (some bx≠v3.ownBlock)∧Hid (Blk wr bx 39 #[.int .i64 c0,.int .i64 c1,.int .i64 c2,.int .i64 c3,.int .i64 c4,.int .i64 c5,.int .i64 c6,.int .i64 c7,.int .i64 n0,.int .i64 n1,.int .i64 n2,u,p,.int .i64 n3,.int .i64 n4,.int .i64 n5,.int .i64 n6,.int .i64 t0,.int .i64 t1,.int .i64 t2])∧Hid (Below w.heap.size w wr)) (fun _ v10 _=>8-(intOf v10).toNat)
 case atStart=>exact⟨0,by omega,rfl,HO,qd (by simp[Value.ownBlock]),HBk,HBl⟩
 case round=>
  clear HO HBk HBl;obtain⟨i,hi,rfl,HO,HOa,HBk,HBl⟩:=hrel;obtain⟨A3,k3,hv3⟩:=own_form HO.out;subst hv3
  have hlen:(headC cs i).length=i:=by unfold headC;simp
  by_cases hlt:i<8
  ·have hlt':(i:Int)<8:=by omega
   have hi0:(0:Int)≤(i:Int):=by omega
   have hwi:IntKind.i64.wrap ((i:Int)+1)=((i+1:Nat):Int):=by rw[IntKind.wrap_i64];omega
   obtain⟨z,hz⟩:∃z,z=cs.getD i 0:=⟨_,rfl⟩;have HZ:=qd (show i64B z from hz▸HCs.out i hlt);have HZe:=qd hz
   have hix:∀W,(Instr.index 24 (.agg #[.int .i64 c0,.int .i64 c1,.int .i64 c2,.int .i64 c3,.int .i64 c4,.int .i64 c5,.int .i64 c6,.int .i64 c7]) (.int .i64 (i:Int))).run Tryz.prog W= .ok (.int .i64 z) W:=fun W=>by rw[hz,HCe.out];exact index8 c0 c1 c2 c3 c4 c5 c6 c7 i hlt W
   obtain⟨sn,hsn⟩:∃s:ByteArray,s=⟨(names.getD (i+1) []).toArray⟩:=⟨_,rfl⟩;obtain⟨sf,hsf⟩:∃s:ByteArray,s=⟨(Lib.itoa z).toArray⟩:=⟨_,rfl⟩;obtain⟨m',hm⟩:∃m',m'=i+1:=⟨_,rfl⟩;have Hm:=qd hm
   have hwm:IntKind.i64.wrap ((i:Int)+1)=(m':Int):=by rw[hm];exact hwi
   have HWn:=qd (fun(W:World) (hb:Below w.heap.size w W)=>show Calls Tryz.prog 21 #[.int .i64 (m':Int)] W (fun e w'=>e= .returned (.string sn)∧W=w')from by have h:=HWd.out (m':Int) W hb;rw[hm,word_of_names hlt]at h;unfold strV at h;rw[←hsn,←hm]at h;exact h);have HF:=qd (fun(W:World) (hb:Below w.heap.size w W)=>show Calls Tryz.prog 22 #[.int .i64 z] W (fun e w'=>e= .returned (.string sf)∧Below W.heap.size W w')from by have h:=HIt.out z HZ.out W hb;unfold strV at h;rw[←hsf]at h;exact h)
   have z1:sn.size≤20:=by
    rw[hsn]
    have hi8:i=0∨i=1∨i=2∨i=3∨i=4∨i=5∨i=6∨i=7:=by omega
    rcases hi8 with rfl|rfl|rfl|rfl|rfl|rfl|rfl|rfl<;>decide
   have z2:sf.size≤21:=by rw[hsf];exact sz (Lib.itoa_length_le z HZ.out.1 HZ.out.2)
   have q1:¬9223372036854775807<sn.size+1:=by omega
   have q2:¬9223372036854775807<sn.size+1+sf.size:=by omega
   have HLn:=qd (show Value.string (sn++⟨#[32]⟩++sf)=strV (lineN (names.getD (i+1) []) (cs.getD i 0))from by
    rw[hsn,hsf,←HZe.out];unfold strV lineN;congr 1;apply ByteArray.ext
    simp[ByteArray.data_append])
   have HM:=qd (show 8-m'<8-i by omega)
   have hm8:m'≤8:=by omega
   clear hsn hsf hz hm hwi;go_wp2_with fail;refine(HWn.out _ HBl.out).mono ?_;rintro y w4 ⟨rfl,rfl⟩;go_wp2_with fail;refine(HF.out _ HBl.out).mono ?_;rintro y w5 ⟨rfl,hb5⟩;have hown:=own_below HO.out hb5 (Nat.le_refl _);have HBq:=qd (HBl.out.trans (hb5.mono HBl.out.size));have HKq:=qd (HBk.out.below hb5 HBk.out.lt);have hbs:=HBq.out.size;rw[hlen]at hown HOa
   try rw[hlen]
   clear hb5 HO HBl HBk;go_wp2_with (at_builtin;refine wpList_append1 rfl rfl slty_strs hown rfl rfl rfl rfl rfl (by omega) (by omega) ?_;intro v9 w9 ho9 hg9)
   have HO9:=qd (show StrsOwn w9 w.heap.size v9 (headC cs m')from by
    unfold StrsOwn;rw[Hm.out,headC_succ,List.length_append,hlen,List.map_append];have h:=ho9;simp only[HLn.out]at h
    exact h)
   have HB9:=qd (HBq.out.trans hg9.below);have HK9:=qd (HKq.out.grown hg9.by_ HOa.out)
   have HA9:=qd (show some bx≠v9.ownBlock from fun h=>by
    rcases hg9.at_ with k|⟨g,k,hk⟩
    ·exact HOa.out (by rw[h,k])
    ·rw[k]at h
     have e:bx=g:=by injection h
     have:=HKq.out.lt
     omega)
   have hwi:IntKind.i64.wrap ((i:Int)+1)=(m':Int):=hwm;clear ho9 hg9 hown HBq HKq HOa;go_wp2;go_roundw
   case measure=>simp[intOf];exact HM.out
   exact⟨m',hm8,rfl,HO9,HA9,HK9,HB9⟩
  ·obtain rfl:i=8:=by omega
   have hlt':¬((8:Nat):Int)<8:=by omega
   have hlen8:(headC cs 8).length=8:=by unfold headC;simp
   clear hlt hi hlen;have HOw:=qd HO.out;have HAw:=qd HOa.out;have HBw:=qd HBl.out;have HKw:=qd HBk.out;have x1:=HBk.out.cell 8;have x2:=HBk.out.cell 9;have x3:=HBk.out.cell 10;have x6:=HBk.out.cell 13;have x7:=HBk.out.cell 14;have x8:=HBk.out.cell 15;have x9:=HBk.out.cell 16;simp only[gl]at x1 x2 x3 x6 x7 x8 x9;clear HO HBl HBk HOa;go_upto_region 8 with fail;refine nameW (F:=fun v=>Blk v wr.heap.size 60 #[strV [101,114,114,111,114,115],.int .i64 n0,strV [102,111,117,110,100],.int .i64 n1,strV [121,105,101,108,100,115],.int .i64 n2,strV [108,101,110],.int .i64 n3,strV [110,111,100,101,115],.int .i64 n4,strV [104,101,108,100],.int .i64 n5,strV [116,114,97,115,104],.int .i64 n6]∧Below wr.heap.size wr v) ⟨Blk.new wr 60 _,(Below.refl _ _).alloc (Nat.le_refl _) _⟩ ?_;rintro w2 ⟨hW2,hb2⟩;obtain⟨bw,hbw⟩:∃bw,bw=wr.heap.size:=⟨_,rfl⟩;have HBe2:=qd hbw
   have HO:=qd (show StrsOwn w2 w.heap.size (.slice A3 (headC cs 8).length k3) (headC cs 8++headN ns 0)from by
    rw[show headC cs 8++headN ns 0=headC cs 8 from by simp[headN]]
    exact own_below HOw.out hb2 (Nat.le_refl _))
   have HBk:=qd (HKw.out.below hb2 HKw.out.lt);have HBl:=qd (HBw.out.trans (hb2.mono HBw.out.size));rw[←hbw]at hW2⊢;have HWk:=qd hW2;have HOb:=qd (fun(h:some bw=(Value.slice A3 (headC cs 8).length k3).ownBlock)=>show False from by have h1:=HOw.out.lt bw h.symm;rw[HBe2.out]at h1;exact Nat.lt_irrefl _ h1.2);rw[hlen8]at HO HOb HAw
   try rw[hlen8]
   clear hW2 hb2 hbw HOw HBw HKw x1 x2 x3 x6 x7 x8 x9;go_wp2;go_loopw [3,48] (fun v3 v48 wr=>∃j:Nat,j≤7∧v48= .int .i64 (j:Int)∧Hid (StrsOwn wr w.heap.size v3 (headC cs 8++headN ns j))∧Hid (some bw≠v3.ownBlock∧some bx≠v3.ownBlock)∧Hid (Blk wr bw 60 #[strV [101,114,114,111,114,115],.int .i64 n0,strV [102,111,117,110,100],.int .i64 n1,strV [121,105,101,108,100,115],.int .i64 n2,strV [108,101,110],.int .i64 n3,strV [110,111,100,101,115],.int .i64 n4,strV [104,101,108,100],.int .i64 n5,strV [116,114,97,115,104],.int .i64 n6])∧Hid (Blk wr bx 39 #[.int .i64 c0,.int .i64 c1,.int .i64 c2,.int .i64 c3,.int .i64 c4,.int .i64 c5,.int .i64 c6,.int .i64 c7,.int .i64 n0,.int .i64 n1,.int .i64 n2,u,p,.int .i64 n3,.int .i64 n4,.int .i64 n5,.int .i64 n6,.int .i64 t0,.int .i64 t1,.int .i64 t2])∧Hid (Below w.heap.size w wr)) (fun _ v48 _=>7-(intOf v48).toNat)
   case atStart=>exact⟨0,by omega,rfl,HO,qd ⟨fun h=>HOb.out h,HAw.out⟩,HWk,HBk,HBl⟩
   case round=>
    clear HO HBk HBl HWk HOb HAw;obtain⟨j,hj,rfl,HO,HOa,HWk,HBk,HBl⟩:=hrel;obtain⟨A6,k6,hv6⟩:=own_form HO.out;subst hv6
    have hlj:(headC cs 8++headN ns j).length=8+j:=by rw[List.length_append,hlen8];unfold headN;simp
    by_cases hlt:j<7
    ·have hlt':(j:Int)<7:=by omega
     have hj0:(0:Int)≤(j:Int):=by omega
     have hj7:(j:Int)≤7:=by omega
     have hwj:IntKind.i64.wrap ((j:Int)+1)=((j+1:Nat):Int):=by rw[IntKind.wrap_i64];omega
     obtain⟨z,hz⟩:∃z,z=ns.getD j 0:=⟨_,rfl⟩;have HZ:=qd (show i64B z from hz▸HNs.out j hlt);obtain⟨sn,hsn⟩:∃s:ByteArray,s=⟨(words7.getD j []).toArray⟩:=⟨_,rfl⟩;obtain⟨sf,hsf⟩:∃s:ByteArray,s=⟨(Lib.itoa z).toArray⟩:=⟨_,rfl⟩;have HF:=qd (fun(W:World) (hb:Below w.heap.size w W)=>show Calls Tryz.prog 22 #[.int .i64 z] W (fun e w'=>e= .returned (.string sf)∧Below W.heap.size W w')from by have h:=HIt.out z HZ.out W hb;unfold strV at h;rw[←hsf]at h;exact h)
     have hj8:j=0∨j=1∨j=2∨j=3∨j=4∨j=5∨j=6:=by omega
     have r0:wr.cell? ⟨bw,j*2,none⟩=some (.string sn):=by
      rw[HWk.out.cell (j*2),hsn]
      rcases hj8 with rfl|rfl|rfl|rfl|rfl|rfl|rfl<;>rfl
     have r1:wr.cell? ⟨bw,j*2+1,none⟩=some (.int .i64 z):=by
      rw[HWk.out.cell (j*2+1),hz,HNe.out]
      rcases hj8 with rfl|rfl|rfl|rfl|rfl|rfl|rfl<;>rfl
     have z1:sn.size≤20:=by
      rw[hsn]
      rcases hj8 with rfl|rfl|rfl|rfl|rfl|rfl|rfl<;>decide
     have z2:sf.size≤21:=by rw[hsf];exact sz (Lib.itoa_length_le z HZ.out.1 HZ.out.2)
     have q1:¬9223372036854775807<sn.size+1:=by omega
     have q2:¬9223372036854775807<sn.size+1+sf.size:=by omega
     have HLn:=qd (show Value.string (sn++⟨#[32]⟩++sf)=strV (lineN (words7.getD j []) (ns.getD j 0))from by
      rw[hsn,hsf,hz];unfold strV lineN;congr 1;apply ByteArray.ext
      simp[ByteArray.data_append])
     have HM:=qd (show 6-j<7-j by omega);clear hsn hsf hz hj8;go_upto_region 10 with fail;refine nameW (F:=fun v=>Blk v wr.heap.size 60 #[.string sn,.int .i64 z]∧Below wr.heap.size wr v) ⟨Blk.new wr 60 _,(Below.refl _ _).alloc (Nat.le_refl _) _⟩ ?_;rintro w3 ⟨hB3,hb3⟩;obtain⟨b2,hb2e⟩:∃b2,b2=wr.heap.size:=⟨_,rfl⟩;have hown:=own_below HO.out hb3 (Nat.le_refl _);have hbel:=HBl.out.trans (hb3.mono HBl.out.size);have hbkw:=HWk.out.below hb3 HWk.out.lt;have hbkx:=HBk.out.below hb3 HBk.out.lt;rw[←hb2e]at hB3⊢
     have hne1:60 ≠9 :=by decide
     have hne2:39 ≠9 :=by decide
     rw[hlj]at hown
     try rw[hlj]
     clear HO HWk HBk HBl hb3 r0 r1 hb2e HOa
     go_region_held3 (fun w'=>w'.cell? ⟨b2,0,none⟩=some (.string sn)∧w'.cell? ⟨b2,1,none⟩=some (.int .i64 z)) (first
      |exact⟨hB3.cell 0,hB3.cell 1⟩
      |go_keep)
      (first
      |(apply step_appendm (hT:=slty_strs) (hown:=hown) (cs:= #[.string (sn++⟨#[32]⟩++sf)]) (m:=1);(case ho=>rfl);(case hgd=>rfl);(case hs=>rfl);(case hx=>rfl);(case hg0=>rfl);(case hl=>rfl);(case h1'=>rfl);(case hm=>decide);(case hn=>omega);(case hbase=>exact hbel.size);intro v4 w4 hown4 hgr;have hB3:=own_blk hB3 hgr hown hne1;have hbkw:=own_blk hbkw hgr hown hne1;have hbkx:=own_blk hbkx hgr hown hne2)
      |(go_at_call 22;(with_reducible refine Calls.mono (HF.out _ ?_) ?_);(first|exact hbel|exact hbel.drew);rintro e w3 ⟨rfl,hbc⟩;have hown:w3.ownsRow w.heap.size 9 1 (.slice A6 (8+j) k6) (8+j) ((headC cs 8++headN ns j).map strV):=(by first|exact own_below hown hbc (Nat.le_refl _)|exact own_below (World.ownsRow.drew hown) hbc (Nat.le_refl _));have hB3:Blk w3 b2 60 #[.string sn,.int .i64 z]:=(by first|exact hB3.below hbc hB3.lt|exact hB3.drew.below hbc hB3.drew.lt);have hbkw:Blk w3 bw 60 #[strV [101,114,114,111,114,115],.int .i64 n0,strV [102,111,117,110,100],.int .i64 n1,strV [121,105,101,108,100,115],.int .i64 n2,strV [108,101,110],.int .i64 n3,strV [110,111,100,101,115],.int .i64 n4,strV [104,101,108,100],.int .i64 n5,strV [116,114,97,115,104],.int .i64 n6]:=(by first|exact hbkw.below hbc hbkw.lt|exact hbkw.drew.below hbc hbkw.drew.lt);have hbkx:Blk w3 bx 39 #[.int .i64 c0,.int .i64 c1,.int .i64 c2,.int .i64 c3,.int .i64 c4,.int .i64 c5,.int .i64 c6,.int .i64 c7,.int .i64 n0,.int .i64 n1,.int .i64 n2,u,p,.int .i64 n3,.int .i64 n4,.int .i64 n5,.int .i64 n6,.int .i64 t0,.int .i64 t1,.int .i64 t2]:=(by first|exact hbkx.below hbc hbkx.lt|exact hbkx.drew.below hbc hbkx.drew.lt);have hbel:Below w.heap.size w w3:=(by first|exact hbel.trans (hbc.mono hbel.size)|exact hbel.drew.trans (hbc.mono hbel.size))))
     all_goals
      have HO9:=qd (show StrsOwn w4 w.heap.size v4 (headC cs 8++headN ns (j+1))from by
       unfold StrsOwn;rw[headN_succ,←List.append_assoc,List.length_append,hlj,List.map_append];have h:=hown4;simp only[HLn.out]at h
       exact h)
      have HB9:=qd (hbel.trans hgr.below);have HW9:=qd hbkw;have HK9:=qd hbkx;have HA9:=qd (show some bw≠v4.ownBlock∧some bx≠v4.ownBlock from⟨fun h=>own_typ hown4 hbkw hne1 (by rw[←h];simp),fun h=>own_typ hown4 hbkx hne2 (by rw[←h];simp)⟩);clear hown4 hgr hbkw hbkx hbel hown hB3;go_wp2;go_roundw
      case measure=>simp[intOf];exact HM.out
      exact⟨j+1,by omega,rfl,HO9,HA9,HW9,HK9,HB9⟩
    ·obtain rfl:j=7:=by omega
     have hlt':¬((7:Nat):Int)<7:=by omega
     have hown:=HO.out;have hbel:=HBl.out;have hbkx:=HBk.out
     have hne2:39 ≠9 :=by decide
     unfold StrsOwn at hown;rw[hlj]at hown
     try rw[hlj]
     obtain⟨su,hsu⟩:∃s:ByteArray,s=⟨(rowB l n).toArray⟩:=⟨_,rfl⟩;obtain⟨sp,hsp⟩:∃s:ByteArray,s=⟨(rowB m k).toArray⟩:=⟨_,rfl⟩
     have z1:su.size≤200:=by rw[hsu];exact sz HLu.out
     have z2:sp.size≤200:=by rw[hsp];exact sz HLp.out
     have q1:¬9223372036854775807<6+su.size:=by omega
     have q2:¬9223372036854775807<7+sp.size:=by omega
     have HSu:=qd (fun(W:World) (hb:Below w.heap.size w W) (rb base:Nat) (F:List Nat) (h:PaR base W rb F l n)=>show Calls Tryz.prog 23 #[.pointer (some ⟨rb,0,none⟩)] W (fun e w'=>e= .returned (.string su)∧Below W.heap.size W w')from by have h:=HWu.out W hb rb base F h;unfold strV at h;rw[←hsu]at h;exact h);have HSp:=qd (fun(W:World) (hb:Below w.heap.size w W) (rb base:Nat) (F:List Nat) (h:PaR base W rb F m k)=>show Calls Tryz.prog 23 #[.pointer (some ⟨rb,0,none⟩)] W (fun e w'=>e= .returned (.string sp)∧Below W.heap.size W w')from by have h:=HWp.out W hb rb base F h;unfold strV at h;rw[←hsp]at h;exact h)
     have HL1:=qd (show Value.string ((⟨#[117,110,105,116,115,32]⟩:ByteArray)++su)=strV (unitsB++32::rowB l n)from by
      rw[hsu];unfold strV unitsB
      congr 1)
     have HL2:=qd (show Value.string ((⟨#[112,114,111,98,101,115,32]⟩:ByteArray)++sp)=strV (probesB++32::rowB m k)from by
      rw[hsp];unfold strV probesB
      congr 1)
     clear HO HBl HBk HWk HOa hsu hsp;go_upto_region 12 with fail
     go_region_held3 (fun w'=>w'.cell? ⟨bx,11,none⟩=some u∧w'.cell? ⟨bx,12,none⟩=some p) (first
      |exact⟨hbkx.cell 11,hbkx.cell 12⟩
      |go_keep)
      (first
      |(apply step_appendm (hT:=slty_strs) (hown:=hown) (cs:= #[.string ((⟨#[117,110,105,116,115,32]⟩:ByteArray)++su),.string ((⟨#[112,114,111,98,101,115,32]⟩:ByteArray)++sp)]) (m:=2);(case ho=>rfl);(case hgd=>rfl);(case hs=>rfl);(case hx=>rfl);(case hg0=>rfl);(case hl=>rfl);(case h1'=>rfl);(case hm=>decide);(case hn=>omega);(case hbase=>exact hbel.size);intro v4 w4 hown4 hgr;have hbkx:=own_blk hbkx hgr hown hne2)
      |(go_at_call_of 24 u;(with_reducible refine Calls.mono (HRu.out _ ?_) ?_);(first|exact hbel|exact hbel.drew);rintro e w3 ⟨rb1,base1,F1,rfl,hpa1,hbc⟩;have hown:w3.ownsRow w.heap.size 9 1 (.slice A6 (8+7) k6) (8+7) ((headC cs 8++headN ns 7).map strV):=(by first|exact own_below hown hbc (Nat.le_refl _)|exact own_below (World.ownsRow.drew hown) hbc (Nat.le_refl _));have hbkx:Blk w3 bx 39 #[.int .i64 c0,.int .i64 c1,.int .i64 c2,.int .i64 c3,.int .i64 c4,.int .i64 c5,.int .i64 c6,.int .i64 c7,.int .i64 n0,.int .i64 n1,.int .i64 n2,u,p,.int .i64 n3,.int .i64 n4,.int .i64 n5,.int .i64 n6,.int .i64 t0,.int .i64 t1,.int .i64 t2]:=(by first|exact hbkx.below hbc hbkx.lt|exact hbkx.drew.below hbc hbkx.drew.lt);have hbel:Below w.heap.size w w3:=(by first|exact hbel.trans (hbc.mono hbel.size)|exact hbel.drew.trans (hbc.mono hbel.size)))
      |(go_at_call_of 24 p;(with_reducible refine Calls.mono (HRp.out _ ?_) ?_);(first|exact hbel|exact hbel.drew);rintro e w3 ⟨rb2,base2,F2,rfl,hpa2,hbc⟩;have hown:w3.ownsRow w.heap.size 9 1 (.slice A6 (8+7) k6) (8+7) ((headC cs 8++headN ns 7).map strV):=(by first|exact own_below hown hbc (Nat.le_refl _)|exact own_below (World.ownsRow.drew hown) hbc (Nat.le_refl _));have hbkx:Blk w3 bx 39 #[.int .i64 c0,.int .i64 c1,.int .i64 c2,.int .i64 c3,.int .i64 c4,.int .i64 c5,.int .i64 c6,.int .i64 c7,.int .i64 n0,.int .i64 n1,.int .i64 n2,u,p,.int .i64 n3,.int .i64 n4,.int .i64 n5,.int .i64 n6,.int .i64 t0,.int .i64 t1,.int .i64 t2]:=(by first|exact hbkx.below hbc hbkx.lt|exact hbkx.drew.below hbc hbkx.drew.lt);have hbel:Below w.heap.size w w3:=(by first|exact hbel.trans (hbc.mono hbel.size)|exact hbel.drew.trans (hbc.mono hbel.size)))
      |(go_at_call_of 23 (Value.pointer (some ⟨rb1,0,none⟩));(with_reducible refine Calls.mono (HSu.out _ ?_ rb1 base1 F1 ?_) ?_);(first|exact hbel|exact hbel.drew);(first|exact hpa1);rintro e w3 ⟨rfl,hbc⟩;have hown:w3.ownsRow w.heap.size 9 1 (.slice A6 (8+7) k6) (8+7) ((headC cs 8++headN ns 7).map strV):=(by first|exact own_below hown hbc (Nat.le_refl _)|exact own_below (World.ownsRow.drew hown) hbc (Nat.le_refl _));have hbkx:Blk w3 bx 39 #[.int .i64 c0,.int .i64 c1,.int .i64 c2,.int .i64 c3,.int .i64 c4,.int .i64 c5,.int .i64 c6,.int .i64 c7,.int .i64 n0,.int .i64 n1,.int .i64 n2,u,p,.int .i64 n3,.int .i64 n4,.int .i64 n5,.int .i64 n6,.int .i64 t0,.int .i64 t1,.int .i64 t2]:=(by first|exact hbkx.below hbc hbkx.lt|exact hbkx.drew.below hbc hbkx.drew.lt);have hbel:Below w.heap.size w w3:=(by first|exact hbel.trans (hbc.mono hbel.size)|exact hbel.drew.trans (hbc.mono hbel.size)))
      |(go_at_call_of 23 (Value.pointer (some ⟨rb2,0,none⟩));(with_reducible refine Calls.mono (HSp.out _ ?_ rb2 base2 F2 ?_) ?_);(first|exact hbel|exact hbel.drew);(first|exact hpa2);rintro e w3 ⟨rfl,hbc⟩;have hown:w3.ownsRow w.heap.size 9 1 (.slice A6 (8+7) k6) (8+7) ((headC cs 8++headN ns 7).map strV):=(by first|exact own_below hown hbc (Nat.le_refl _)|exact own_below (World.ownsRow.drew hown) hbc (Nat.le_refl _));have hbkx:Blk w3 bx 39 #[.int .i64 c0,.int .i64 c1,.int .i64 c2,.int .i64 c3,.int .i64 c4,.int .i64 c5,.int .i64 c6,.int .i64 c7,.int .i64 n0,.int .i64 n1,.int .i64 n2,u,p,.int .i64 n3,.int .i64 n4,.int .i64 n5,.int .i64 n6,.int .i64 t0,.int .i64 t1,.int .i64 t2]:=(by first|exact hbkx.below hbc hbkx.lt|exact hbkx.drew.below hbc hbkx.drew.lt);have hbel:Below w.heap.size w w3:=(by first|exact hbel.trans (hbc.mono hbel.size)|exact hbel.drew.trans (hbc.mono hbel.size))))
     all_goals
      have HO9:=qd (show StrsOwn w4 w.heap.size v4 (linesB cs ns l m n k)from by
       unfold StrsOwn linesB;rw[List.length_append,hlj,List.map_append];have h:=hown4;simp only[HL1.out,HL2.out]at h
       exact h)
      have HB9:=qd (hbel.trans hgr.below);clear hown4 hgr hbkx hbel hown;go_wp2;go_ret;exact⟨_,rfl,HO9.out,HB9.out⟩
end
theorem table_look (tb gb:Nat)(T:TabM)(mb:Nat)(mt:TypeId)(mpre mpost:List Value)(mo:Nat)(a0 l0:Cnt)(m:Int)(c:Cnt)(i:Nat)(hi:i<T.gs.length)(w:World)(h:TabAt w tb gb T)(hM:Met w mb mt mpre mpost mo a0 l0 m)(hmt:mb≠tb)(hmg:mb≠gb):
  Calls Tryz.prog 341 #[tabP tb,lensV (some ⟨mb,mo,none⟩) c,.int .i64 (i:Int)] w fun x w'=>x= .returned (.tuple #[viewV ⟨gb,i*25,none⟩,.bool true])∧Met w' mb mt mpre mpost mo (plusC a0 c) (plusC l0 c) m∧Mod [mb] w w':=by
 obtain⟨W,hW,hB,hL,hR⟩:=qX2 w 203 #[.pointer (some ⟨mb,mo,none⟩),.int .i64 c.p,.int .i64 c.v,.int .i64 c.u] 235 #[.pointer none];have lc:=hL.c4;have rc0:=hR.cell 0;simp only[List.getElem?_toArray,List.getElem?_cons_zero]at rc0;have hml:=hM.lt;have htl:=h.ltT;have hgl:=h.ltG;have HW:=qd hW
 have hi':(i:Int)<(T.gs.length:Int):=by omega
 have hi0:¬((i:Int)<0):=by omega
 have hi2:(0:Int)≤(i:Int):=by omega
 have HLk:=qd (group_Look ⟨gb,i*25,none⟩ mb mt mpre mpost mo a0 l0 m c W.drew (hM.below (hB.trans ((Below.refl _ _).drew.mono hB.size))));obtain⟨tc0,tc1,tc2⟩:=(h.below hB).cells;unfold lensV at HLk;unfold tabP lensV viewV;have HT:=qd (h.below hB);have HR:=qd (hR);have Hmod:=qd (Mod.of_below hB [mb]);clear hW hB h hM hL hR;go_in;go_upto_region 1 with fail;rw[←HW.out];go_upto_region 3 with fail;refine rT (fun(w':World)=>w'.cell? ⟨tb,0,none⟩=some (.slice (some ⟨gb,0,none⟩) T.gs.length T.gs.length)∧w'.cell? ⟨w.heap.size,0,none⟩=some (.pointer (some ⟨mb,mo,none⟩))∧w'.cell? ⟨w.heap.size,1,none⟩=some (.int .i64 c.p)∧w'.cell? ⟨w.heap.size,2,none⟩=some (.int .i64 c.v)∧w'.cell? ⟨w.heap.size,3,none⟩=some (.int .i64 c.u)) [7,8] ?_;have hHeld:=(⟨tc0,lc.1,lc.2.1,lc.2.2.1,lc.2.2.2⟩:_∧_∧_∧_∧_);refine vW 0 rfl ?_;refine vW 1 rfl ?_;refine vW 2 rfl ?_;refine vT 3 rfl ?_;refine vW 4 rfl ?_;refine vW 5 rfl ?_;refine vT 6 rfl ?_;refine nT 7 rfl fun K hK=> ?_;go_simp;refine(HLk.out).mono ?_;rintro x w1 ⟨rfl,hM1,hm⟩;replace hm:Mod [mb] W w1:=(Mod.drewN [mb] W 1).then hm;clear lc rc0;replace HT:=qM hm HT;replace HR:=qM hm HR;replace Hmod:=qU Hmod hm;have HM:=qd (hM1);clear hM1 hm;unfold viewV;have rc0:=HR.out.cell 0;simp only[List.getElem?_toArray,List.getElem?_cons_zero]at rc0;have rf0:=HR.out.frozen 0;have n0:=HT.out.cells.1;go_simp;refine kO hK ?_;clear hK K;refine nT 8 rfl fun K hK=> ?_;go_simp;refine kO hK ?_;clear hK K;refine vL 9 rfl ?_;refine doneT (by kernel_rfl) ?_ _
 have q1:=qJ HT.out.ltT (qJ HT.out.ltG (qJ HR.out.lt HM.out.lt));have hnew:=(HR.out.set_ 0 (.pointer (some ⟨gb,i*25,none⟩)));have hm:=((Mod.refl [(w.heap.size+1)] w1).sl 0 (.pointer (some ⟨gb,i*25,none⟩)));simp only[pt]at hnew;refine nameW (F:=fun v=>Blk v (w.heap.size+1) 235 #[.pointer (some ⟨gb,i*25,none⟩)]∧Mod [(w.heap.size+1)] w1 v) ⟨hnew,hm⟩ ?_;clear hnew hm;rintro w2 ⟨hnew,hm⟩;clear rc0 rf0;replace HT:=qM hm HT;replace HM:=qM hm HM;replace Hmod:=qU Hmod hm;replace HR:=qd hnew;clear hnew hm;have rc0:=HR.out.cell 0;simp only[List.getElem?_toArray,List.getElem?_cons_zero]at rc0;go_wp2;refine bodyPost_ret (v:= .tuple #[.agg #[.pointer (some ⟨gb,i*25,none⟩)],.bool true]) (by simp[results,Tryz.results341,go_sem,rc0]) rfl ⟨rfl,HM.out,Hmod.out⟩
theorem table_Prepare (tb gb:Nat)(T:TabM)(mb:Nat)(mt:TypeId)(mpre mpost:List Value)(mo:Nat)(a0 l0:Cnt)(m:Int)(c:Cnt)(i:Nat)(hi:i<T.gs.length)(w:World)(h:TabAt w tb gb T)(hM:Met w mb mt mpre mpost mo a0 l0 m)(hmt:mb≠tb)(hmg:mb≠gb):
  Calls Tryz.prog 336 #[tabP tb,lensV (some ⟨mb,mo,none⟩) c,.int .i64 (i:Int)] w fun x w'=>x= .returned .nilIface∧TabAt w' tb gb {T with gs:=T.gs.set i (List.replicate 8 .empty)}∧Met w' mb mt mpre mpost mo (plusC a0 c) (plusC l0 c) m∧Mod [mb,tb,gb] w w':=by
 have hB:=(Below.refl w.heap.size w).alloc (Nat.le_refl _) (.cells #[.pointer (some ⟨mb,mo,none⟩),.int .i64 c.p,.int .i64 c.v,.int .i64 c.u] 203);have hL:=Blk.new w 203 #[.pointer (some ⟨mb,mo,none⟩),.int .i64 c.p,.int .i64 c.v,.int .i64 c.u];obtain⟨W,hW⟩:∃W,W=w.alloc (.cells #[.pointer (some ⟨mb,mo,none⟩),.int .i64 c.p,.int .i64 c.v,.int .i64 c.u] 203):=⟨_,rfl⟩;rw[←hW]at hB hL;obtain⟨lc0,lc1,lc2,lc3⟩:=hL.c4;have hml:=hM.lt;have htl:=h.ltT;have hgl:=h.ltG;have HW:=qd hW;have HLk:=qd (table_look tb gb T mb mt mpre mpost mo a0 l0 m c i hi W (h.below hB) (hM.below hB) hmt hmg);unfold tabP lensV viewV at HLk;unfold tabP lensV;have HT:=qd (h.below hB);have Hmod:=qd (Mod.of_below hB [mb,tb,gb]);clear hW hB h hM hL;go_in;go_upto_region 1 with fail;rw[←HW.out];go_wp2_with fail;refine(HLk.out).mono ?_;rintro x w1 ⟨rfl,hM1,hm⟩;clear lc0 lc1 lc2 lc3;replace HT:=qM hm HT;replace Hmod:=qU Hmod hm;clear hm;have HM:=qd (hM1);clear hM1;go_upto_region 4 with fail;have q1:=qJ HT.out.ltT (qJ HT.out.ltG (qJ HM.out.lt Hmod.out.size));refine nameB 235 #[.pointer (some ⟨gb,i*25,none⟩)] ?_;rintro w2 ⟨hnew,hb⟩;replace HT:=qB hb HT;replace HM:=qB hb HM;replace Hmod:=qT Hmod hb;have HV:=qd (hnew);clear hnew hb;have vc0:=HV.out.cell 0;simp only[List.getElem?_toArray,List.getElem?_cons_zero]at vc0;have HCl:=qd (grp_Clear gb 239 _ _ (i*25) _ w2 (HT.out.group i hi));unfold viewV at HCl;go_wp2_with fail;refine(HCl.out).mono ?_
 rintro x w3 ⟨rfl,hG3,hm⟩;have hT3:=HT.out.set_group i hi hm hG3;clear HT hG3 HV vc0;replace HM:=qM hm HM;replace Hmod:=qU Hmod hm;have HT:=qd (hT3);clear hm hT3;go_wp2;go_ret;exact⟨rfl,HT.out,HM.out,Hmod.out⟩
section
variable {T : TabM} {i s : Nat}
structure TOk (T:TabM):Prop where
 wide:Wide T.gs
 pow:Pw T.gs.length
 live:T.live=((entsT T.gs).length:Int)
 tombs:T.tombs=(tombsT T.gs:Int)
theorem TOk.small (h:TOk T):Small T:=by
 have h1:=room_most h.wide;have h2:=h.pow.le;exact⟨by rw[h.live];omega,by rw[h.live];omega,by rw[h.tombs];omega,by rw[h.tombs];omega,h2⟩
theorem TOk.put (h:TOk T)(hi:i<T.gs.length)(hs:s<(T.gs.getD i []).length)(x:Slot){l t:Int}(hl:l=T.live+x.ents.length-(slotAt T.gs i s).ents.length)(ht:t=T.tombs+x.tomb1-(slotAt T.gs i s).tomb1):TOk ⟨putAt T.gs i s x,l,t⟩:=by
 have h1:=(entsT_put hi hs x).length_eq;have h2:=tombsT_put hi hs x;rw[List.length_append,List.length_append]at h1;have h3:=h.live;have h4:=h.tombs;exact⟨h.wide.put _ _ _,by show Pw (putAt _ _ _ _).length;rw[putAt_length];exact h.pow,by show l=((entsT (putAt T.gs i s x)).length:Int);omega,by show t=(tombsT (putAt T.gs i s x):Int);omega⟩
theorem TOk.erase (h:TOk T){e:Ent}(he:slotAt T.gs i s= .full e):TOk (eraseM T i s):=by
 obtain⟨hi,hs⟩:=slotAt_lt (gs:=T.gs) (i:=i) (s:=s) (by rw[he];exact fun h=>by cases h);unfold eraseM
 cases ho:openG (T.gs.getD i [])with
 |true=>exact h.put hi hs _ (by rw[he];simp[Slot.ents]<;>omega) (by rw[he];simp[Slot.tomb1,Slot.isTomb]<;>omega)
 |false=>exact h.put hi hs _ (by rw[he];simp[Slot.ents]<;>omega) (by rw[he];simp[Slot.tomb1,Slot.isTomb]<;>omega)
theorem TOk.place (h:TOk T)(hi:i<T.gs.length)(hs:s<(T.gs.getD i []).length)(he:(slotAt T.gs i s).isFull=false)(e:Ent):TOk (placeM T i s e):=by
 unfold placeM
 cases hx:slotAt T.gs i s with
 |full y=>rw[hx]at he;cases he
 |empty=>exact h.put hi hs _ (by rw[hx];simp[Slot.ents]<;>omega) (by rw[hx];simp[Slot.tomb1,Slot.isTomb]<;>omega)
 |tomb=>exact h.put hi hs _ (by rw[hx];simp[Slot.ents]<;>omega) (by rw[hx];simp[Slot.tomb1,Slot.isTomb]<;>omega)
theorem TOk.replace (h:TOk T){v:Nat}{e:Ent}(he:slotAt T.gs i s= .full e):TOk (replaceM T i s v e):=by
 obtain⟨hi,hs⟩:=slotAt_lt (gs:=T.gs) (i:=i) (s:=s) (by rw[he];exact fun h=>by cases h);exact h.put hi hs _ (by rw[he];simp[Slot.ents]<;>omega) (by rw[he];simp[Slot.tomb1,Slot.isTomb]<;>omega)
def eraseIf (T:TabM)(i s:Nat):TabM:=if(slotAt T.gs i s).isFull then eraseM T i s else T
def takeN (T:TabM)(i:Nat):Nat→TabM
 |0=>T
 |k+1=>eraseIf (takeN T i k) i k
theorem TOk.erIf (h:TOk T)(i s:Nat):TOk (eraseIf T i s):=by
 unfold eraseIf
 cases hx:slotAt T.gs i s with
 |full e=>rw[if_pos (by rfl)];exact h.erase hx
 |empty=>rw[if_neg (by simp[Slot.isFull])];exact h
 |tomb=>rw[if_neg (by simp[Slot.isFull])];exact h
theorem TOk.tkN (h:TOk T)(i:Nat):∀k,TOk (takeN T i k)
 |0=>h
 |k+1=>(h.tkN i k).erIf i k
theorem eraseM_length (T:TabM)(i s:Nat):(eraseM T i s).gs.length=T.gs.length:=putAt_length _ _ _ _
theorem takeN_length (T:TabM)(i:Nat):∀k,(takeN T i k).gs.length=T.gs.length
 |0=>rfl
 |k+1=>by
  show(eraseIf _ _ _).gs.length=_;unfold eraseIf;split
  ·rw[eraseM_length,takeN_length T i k]
  ·exact takeN_length T i k
theorem own_mod {w w':World}{S:List Nat}{base:Nat}{e:TypeId}{size n:Nat}{v:Value}{xs:List Value}(h:w.ownsRow base e size v n xs)(hm:Mod S w w')(hS:∀k,k∈S→k<base):w'.ownsRow base e size v n xs:=by
 refine⟨h.1, ?_⟩;rcases h.2 with hn|⟨g,cap,cur,hv,hb,hg,rest⟩
 ·exact .inl hn
 ·exact .inr ⟨g,cap,cur,hv,hb,(hm.block g (Array.getElem?_eq_some_iff.1 hg).1 (fun hh=>absurd (hS g hh) (by omega))).trans hg,rest⟩
instance {w w':World}{base:Nat}{e:TypeId}{size n:Nat}{v:Value}{xs:List Value}:Md (w.ownsRow base e size v n xs) w w' (w'.ownsRow base e size v n xs) (fun S=>∀k,k∈S→k<base):=⟨fun h hm hs=>own_mod h hm hs⟩
end
section
structure ErrsC (E:Nat→Addr)(w:World):Prop where
 of:∀k,k=1∨k=2∨k=5→ErrAt E w k
theorem ErrsC.at_ {E:Nat→Addr}{w:World}(h:ErrsC E w)(k:Nat)(_:1≤k)(_:k≤16)(hk:k=1∨k=2∨k=5:=by decide):ErrAt E w k:=h.of k hk
theorem ErrsC.below {E:Nat→Addr}{w w':World}{B:Nat}(h:ErrsC E w)(hb:Below B w w')(hB:w.heap.size≤B):ErrsC E w':=⟨fun k hk=>(h.of k hk).below hb hB⟩
theorem ErrsIn.core {E:Nat→Addr}{w:World}(h:ErrsIn E w):ErrsC E w:=⟨fun k hk=>h.at_ k (by omega) (by omega)⟩
structure Env (W0:World)(E:Nat→Addr)(w:World):Prop where
 below:Below W0.heap.size W0 w
 errs0:ErrsC E W0
 tz0:TzIn W0
section
variable {W0 w w' : World} {E : Nat → Addr}
theorem Env.size (h:Env W0 E w):W0.heap.size≤w.heap.size:=h.below.size
theorem Env.errs (h:Env W0 E w):ErrsC E w:=h.errs0.below h.below (Nat.le_refl _)
theorem Env.tz (h:Env W0 E w):TzIn w:=h.tz0.below h.below
theorem Env.tzlt (h:Env W0 E w):19 <W0.heap.size:=World.block_lt_of_cell? W0 _ (h.tz0 0 (by omega))
theorem Env.mod {S:List Nat}(h:Env W0 E w)(hm:Mod S w w')(hS:∀k,k∈S→W0.heap.size≤k):Env W0 E w':=⟨h.below.trans (hm.below hS h.size),h.errs0,h.tz0⟩
instance {w w':World}{W0:World}{E:Nat→Addr}:Md (Env W0 E w) w w' (Env W0 E w') (fun S=>∀k,k∈S→W0.heap.size≤k):=⟨fun h hm hs=>h.mod hm hs⟩
theorem Env.next (h:Env W0 E w)(hb:Below w.heap.size w w'):Env W0 E w':=h.mod (Mod.of_below hb []) (by simp)
end
structure MP where
 mb:Nat
 mt:TypeId
 pre:List Value
 post:List Value
 mo:Nat
 m:Int
structure Mtr where
 all:Cnt
 last:Cnt
def Mtr.add (x:Mtr)(c:Cnt)(n:Nat):Mtr:=⟨plusN x.all c n,plusN x.last c n⟩
theorem plusN_add (a c:Cnt)(k:Nat):∀n,plusN (plusN a c k) c n=plusN a c (k+n)
 |0=>rfl
 |n+1=>by
  show plusC (plusN (plusN a c k) c n) c=plusC (plusN a c (k+n)) c;rw[plusN_add a c k n]
theorem Mtr.add_add (x:Mtr)(c:Cnt)(k n:Nat):(x.add c k).add c n=x.add c (k+n):=by unfold Mtr.add;rw[plusN_add,plusN_add]
def MetP (w:World)(P:MP)(x:Mtr):Prop:=Met w P.mb P.mt P.pre P.post P.mo x.all x.last P.m
def MP.addr (P:MP):Addr:=⟨P.mb,P.mo,none⟩
section
variable {w w' : World} {P : MP} {x : Mtr}
theorem MetP.lt (h:MetP w P x):P.mb<w.heap.size:=Met.lt h
theorem MetP.mod {S:List Nat}(h:MetP w P x)(hm:Mod S w w')(hg:P.mb∉S):MetP w' P x:=Met.mod h hm hg
instance {w w':World}{P:MP}{x:Mtr}:Md (MetP w P x) w w' (MetP w' P x) (fun S=>P.mb∉S):=⟨fun h hm hs=>MetP.mod h hm hs⟩
theorem MetP.below (h:MetP w P x)(hb:Below w.heap.size w w'):MetP w' P x:=Met.below h hb
end
end
end Go.Proofs.YtfbljmcjadfkoaaGreatDoor
