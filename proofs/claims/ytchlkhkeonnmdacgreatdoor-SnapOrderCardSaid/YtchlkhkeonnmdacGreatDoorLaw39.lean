/- SnapOrder: in which order pairs are loaded doesn't matter to what is taken. -/
import Derived.Test.YtchlkhkeonnmdacGreatDoorLaw39a
import Derived.Test.YtchlkhkeonnmdacGreatDoorLaneP
namespace Go.Proofs.YtchlkhkeonnmdacGreatDoor
set_option maxRecDepth 100000
set_option maxHeartbeats 8000000
open Go.RowKit AmC AmL
theorem own_none (w:World)(base:Nat)(e:TypeId)(size:Nat)(hb:base≤w.heap.size):(w.alloc (.cells #[] e)).ownsRow base e size (.slice (some ⟨w.heap.size,0,none⟩) 0 0) 0 []:=
 World.ownsRow_made w #[] 0 hb (by simp[maxLen]) (by simp)
variable {T l : PL} {E : Nat → Addr} {w : World} {A : Option Addr} {c : Nat}
theorem allP_le (l:PL):(allP l).length≤l.length:=by
 have:∀(l t:PL),AscP t→(l.foldl (fun t p=>putP t p.1 p.2) t).length≤t.length+l.length:=by
  intro l
  induction l with
  |nil=>intro t _;simp
  |cons p l ih=>
   intro t ht;have h1:=ih (putP t p.1 p.2) (putP_asc ht p.1 p.2);rw[putP_length ht]at h1;rw[List.foldl_cons,List.length_cons]
   split at h1<;>omega
 simpa[allP]using this l [] List.Pairwise.nil
theorem allP_sub {p:Nat×Nat}(h:p∈allP l):p∈l:=by
 have:∀(l t:PL),AscP t→p∈l.foldl (fun t p=>putP t p.1 p.2) t→p∈t∨p∈l:=by
  intro l
  induction l with
  |nil=>intro t _ h;exact .inl h
  |cons x l ih=>
   intro t ht h;rw[List.foldl_cons]at h;rcases ih _ (putP_asc ht x.1 x.2) h with h|h
   ·rcases(putP_mem ht).1 h with rfl|⟨h,_⟩
    ·exact .inr (by simp)
    ·exact .inl h
   ·exact .inr (by simp[h])
 rcases this l [] List.Pairwise.nil h with h|h
 ·cases h
 ·exact h
theorem asc_nodup (h:AscP l):(l.map Prod.fst).Nodup:=by
 unfold List.Nodup;rw[List.pairwise_map]
 exact h.imp fun h=>by omega
theorem rem_nat (z:Int)(m:Nat)(hm:0<m)(h64:m≤64):∃r:Nat,r<m∧(IntKind.u64.wrap z).tmod (m:Int)=(r:Int)∧IntKind.i64.wrap (r:Int)=(r:Int)∧IntKind.i64.wrap (1+(r:Int))=((r+1:Nat):Int)∧wrap64 (r:Int)=(r:Int)∧wrap64 (1+(r:Int))=((r+1:Nat):Int):=by
 have h0:0≤IntKind.u64.wrap z:=by rw[IntKind.wrap_u64];omega
 have h1:=Int.emod_nonneg (IntKind.u64.wrap z) (b:=(m:Int)) (by omega);have h2:=Int.emod_lt_of_pos (IntKind.u64.wrap z) (b:=(m:Int)) (by omega);refine⟨(IntKind.u64.wrap z % (m:Int)).toNat,by omega, ?_, ?_, ?_, ?_, ?_⟩
 ·rw[Int.tmod_eq_emod_of_nonneg h0];omega
 ·rw[IntKind.wrap_i64];omega
 ·rw[IntKind.wrap_i64];omega
 ·unfold wrap64;omega
 ·unfold wrap64;omega
theorem rev_at {j:Nat}(h:j<T.length):T.reverse[j]?=T[T.length-1-j]?:=List.getElem?_reverse h
theorem load_39 {W0:World}(hE:Env W0 E w)(hW:MixWords w){B n:Nat}(hl:Reads w B 2 A l.length (l.flatMap pairC))(hn:l.length=n)(hM:n≤150)(h64:∀p∈l,p.1<18446744073709551616∧p.2<18446744073709551616)(hnd:(l.map Prod.fst).Nodup){kq kind:Nat}(hk:kq<64)(hq:kind<6):
  Calls Tryz.prog 8 #[.agg #[.int .i64 ((kq+1:Nat):Int),.int .i64 192,.int .i64 1],.slice A n c,.int .i64 (kind:Int)] w fun y w'=>∃b G,y= .returned (.tuple #[.pointer (some ⟨b,0,none⟩),.nilIface])∧(∃R,MpAt W0 E (mixH kind) (kq+1) 192 1 b G w' R n [] 0∧∀k u,R k=some u↔(k,u)∈l)∧(∀q∈G,w.heap.size≤q)∧Below w.heap.size w w':=by
 have:=snap_Load (c:=c) hE hW ((kq+1:Nat):Int) 192 1 (by unfold cfgOk inB;simp;omega) (kq+1) 192 1 (by omega) (by omega) hl (by omega) h64 hnd kind (by omega);unfold cfgV at this;rw[hn]at this;exact this
theorem reads_rev {base:Nat}(h:w.ownsRow base 29 2 (.slice A T.length c) T.length (T.reverse.flatMap pairC)):Reads w w.heap.size 2 A T.reverse.length (T.reverse.flatMap pairC):=by
 rw[List.length_reverse];exact Reads.of_own h
theorem fn_getP {R:Nat→Option Nat}(ha:AscP T)(hl:AscP l)(hg:∀k,getP l k=R k)(hR:∀k u,R k=some u↔(k,u)∈T):l=T:=by
 refine asc_same hl ha fun k=> ?_;rw[hg]
 cases hr:R k with
 |some u=>exact((getP_mem ha).2 ((hR k u).1 hr)).symm
 |none=>
  cases hp:getP T k with
  |none=>rfl
  |some u=>
   have:=(hR k u).2 ((getP_mem ha).1 hp);rw[hr]at this;cases this
theorem rev_nodup (h:AscP l):(l.reverse.map Prod.fst).Nodup:=by
 rw[List.map_reverse];exact(List.reverse_perm _).nodup_iff.2 (asc_nodup h)
theorem law_snap {l0:PL}{A0:Option Addr}{c0:Nat}(k0 k1 q0 q1:Int)(hl:Reads w w.heap.size 2 A0 l0.length (l0.flatMap pairC))(h64:∀p∈l0,p.1<18446744073709551616∧p.2<18446744073709551616)(hE:Env w E w)(hW:MixWords w)(h6:ErrAt E w 6)(hT:w.cell? ⟨13,15,none⟩=some (.int .u8 4)):
  Calls Tryz.prog 3 #[.slice A0 l0.length c0,.agg #[.int .i64 k0,.int .i64 k1],.agg #[.int .i64 q0,.int .i64 q1]] w fun y w'=>y= .returned (.bool true)∧Below w.heap.size w w':=by
 have HAl:=qd (fun(W:World) (hb:Below w.heap.size w W)=>law39_alive (hE.next hb) h6 hT);have HL:=qd hl;have HX:=qd (And.intro h64 (And.intro hE (And.intro hW (And.intro h6 hT))));clear h64 hE hW h6 hT hl;go_in;go_upto_region 1 with fail;refine nameW (F:=fun v=>Blk v w.heap.size 23 #[.int .i64 k0,.int .i64 k1]∧Blk v (w.heap.size+1) 23 #[.int .i64 q0,.int .i64 q1]∧Below w.heap.size w v) ⟨(Blk.new w 23 #[.int .i64 k0,.int .i64 k1]).alloc _,(by have:=Blk.new (w.alloc (.cells #[.int .i64 k0,.int .i64 k1] 23)) 23 #[.int .i64 q0,.int .i64 q1];simpa using this),((Below.refl w.heap.size w).alloc (Nat.le_refl _) _).alloc (by simp) _⟩ ?_;rintro w1 ⟨hB4,hB5,hb1⟩;obtain⟨b4,hb4⟩:∃b4,b4=w.heap.size:=⟨_,rfl⟩;obtain⟨b5,hb5⟩:∃b5,b5=w.heap.size+1:=⟨_,rfl⟩;rw[←hb5]at hB5⊢;have HBx:=qd (show Blk w1 b4 23 #[.int .i64 k0,.int .i64 k1]∧Blk w1 b5 23 #[.int .i64 q0,.int .i64 q1]from⟨by rw[hb4];exact hB4,hB5⟩);rw[←hb4];have HB1:=qd hb1;have HA1:=qd (HAl.out w1 hb1);clear hB4 hB5 hb1 hb4 hb5 HAl;go_wp2_with fail;refine HA1.out.mono ?_;rintro y w2 ⟨rfl,hb2⟩;have HB2:=qd (HB1.out.trans (hb2.mono HB1.out.size));have HBy:=qd (And.intro (HBx.out.1.below hb2 HBx.out.1.lt) (HBx.out.2.below hb2 HBx.out.2.lt));clear hb2 HA1 HB1 HBx;by_cases hlong:150<l0.length
 ·have hlong':(150:Int)<(l0.length:Int):=by omega
  go_wp2;go_ret;exact⟨rfl,HB2.out⟩
 have hlong':¬(150:Int)<(l0.length:Int):=by omega
 have HNw:=qd (pl_New 200 w2);go_wp2_with fail;refine HNw.out.mono ?_;rintro y w3 ⟨rfl,hf3,hb3⟩;obtain⟨fb,hfb⟩:∃fb,fb=w2.heap.size:=⟨_,rfl⟩;have HF:=qd (show∃F,PlF w2.heap.size w3 fb 200 F (allP (l0.take 0))from⟨_,by rw[hfb];exact hf3⟩);have HB3:=qd hb3;rw[←hfb];clear hf3 hb3 hfb HNw;go_wp2;go_loopw [27] (fun v27 wr=>∃i:Nat,i≤l0.length∧v27= .int .i64 (i:Int)∧Hid (∃F,PlF w2.heap.size wr fb 200 F (allP (l0.take i)))∧Hid (Below w2.heap.size w2 wr)) (fun v27 _=>l0.length-(intOf v27).toNat)
 case atStart=>exact⟨0,by omega,rfl,HF,HB3⟩
 case round=>
  clear HF HB3;obtain⟨i,hi,rfl,HF,HB3⟩:=hrel;by_cases hlt:i<l0.length
  ·have hlt':(i:Int)<(l0.length:Int):=by omega
   have hi0:(0:Int)≤(i:Int):=by omega
   have hwi:IntKind.i64.wrap ((i:Int)+1)=((i+1:Nat):Int):=by rw[IntKind.wrap_i64];omega
   obtain⟨p,hp⟩:∃p,l0[i]?=some p:=⟨_,List.getElem?_eq_getElem hlt⟩;obtain⟨g,off,hA,hgl,hc⟩:=HL.out.2 (by omega);have hbr:=HB2.out.trans (HB3.out.mono HB2.out.size);have r0:wr.cell? ⟨g,off+i*2,none⟩=some (.int .u64 (p.1:Int)):=cell_in hbr (hc (i*2+0) _ (pairC_at hp (by omega)));have r1:wr.cell? ⟨g,off+i*2+1,none⟩=some (.int .u64 (p.2:Int)):=cell_in hbr (hc (i*2+1) _ (pairC_at hp (by omega)));have HTk:=qd (show allP (l0.take (i+1))=putP (allP (l0.take i)) p.1 p.2 from by rw[List.take_add_one,hp];exact allP_snoc _ _);have hal:=allP_le (l0.take i);rw[List.length_take]at hal;have HLn:=qd (show(allP (l0.take i)).length≤150 by omega);subst hA;clear hc hp hbr hal;go_upto_region 9 with fail;refine nameW (F:=fun v=>Blk v wr.heap.size 29 #[.int .u64 (p.1:Int),.int .u64 (p.2:Int)]∧Below wr.heap.size wr v) ⟨Blk.new wr 29 #[.int .u64 (p.1:Int),.int .u64 (p.2:Int)],(Below.refl wr.heap.size wr).alloc (Nat.le_refl _) _⟩ ?_;rintro w6 ⟨hB6,hb6⟩;obtain⟨F6,hF6⟩:=HF.out;have HPu:=qd (pl_Put (hF6.below hb6) (by have:=HLn.out;omega) p.1 p.2 (fun _=>by have:=HLn.out;omega) (by omega));have HF6:=qd (hF6.below hb6);have HB6:=qd (HB3.out.trans (hb6.mono HB3.out.size));obtain⟨bx,hbx⟩:∃bx,bx=wr.heap.size:=⟨_,rfl⟩;rw[←hbx]at hB6⊢;obtain⟨x0,x1⟩:=hB6.c2;clear hB6 hb6 hbx hF6 HF HB3 r0 r1;go_wp2_with fail;refine HPu.out.mono ?_;rintro y w8 ⟨rfl,F8,hF8,hs8,hm8⟩;have HF8:=qd (show∃F,PlF w2.heap.size w8 fb 200 F (allP (l0.take (i+1)))from⟨F8,by rw[HTk.out];exact hF8⟩)
   have HB8:=qd (HB6.out.trans (hm8.below (fun q hq=>(HF6.out.lts q hq).2) HB6.out.size));have HM:=qd (show l0.length-(i+1)<l0.length-i by omega);clear hF8 hs8 hm8 HPu HB6 HF6;go_wp2;go_roundw
   case measure=>simp[intOf];exact HM.out
   exact⟨i+1,by omega,rfl,HF8,HB8⟩
  ·obtain rfl:i=l0.length:=by omega
   have hlt':¬(l0.length:Int)<(l0.length:Int):=by omega
   have hF0:=HF.out;rw[List.take_of_length_le (Nat.le_refl _)]at hF0;obtain⟨T,hTd⟩:∃T,T=allP l0:=⟨_,rfl⟩;rw[←hTd]at hF0
   have HTd:=qd (show AscP T∧T.length≤150∧∀p∈T,p.1<18446744073709551616∧p.2<18446744073709551616 from by
    rw[hTd]
    exact⟨allP_asc _,by have:=allP_le l0;omega,fun p hp=>HX.out.1 p (allP_sub hp)⟩)
   obtain⟨F,hF⟩:=hF0;have HPr:=qd (pl_Pairs hF (by have:=HTd.out.2.1;omega));have HB4:=qd (HB2.out.trans (HB3.out.mono HB2.out.size));have HBz:=qd (And.intro (HBy.out.1.below HB3.out HBy.out.1.lt) (HBy.out.2.below HB3.out HBy.out.2.lt));clear hF hTd HF HB3 HB2 HBy;go_wp2_with fail;refine HPr.out.mono ?_;rintro y w4 ⟨v,rfl,ho4,hb4⟩;obtain⟨AT,cT,rfl⟩:=own_form ho4;have HO4:=qd ho4;have HB5:=qd (HB4.out.trans (hb4.mono HB4.out.size));have HB6:=qd (And.intro (HBz.out.1.below hb4 HBz.out.1.lt) (HBz.out.2.below hb4 HBz.out.2.lt));clear ho4 hb4 HPr HB4 HBz;have HBk:=qd (own_none w4 w4.heap.size 29 2 (Nat.le_refl _));have HBw:=qd ((Below.refl w4.heap.size w4).alloc (Nat.le_refl _) (.cells #[] 29));go_wp2;go_loopw [11,44] (fun v11 v44 wr=>∃j:Nat,j≤T.length∧v44= .int .i64 (j:Int)∧Hid (wr.ownsRow w4.heap.size 29 2 v11 j ((T.reverse.take j).flatMap pairC))∧Hid (Below w4.heap.size w4 wr)) (fun _ v44 _=>T.length-(intOf v44).toNat)
   case atStart=>exact⟨0,by omega,rfl,HBk,HBw⟩
   case round=>
    clear HBk HBw;obtain⟨j,hj,rfl,HBk,HBw⟩:=hrel;have hn150:=HTd.out.2.1;by_cases hlt2:j<T.length
    ·have hlt2':(j:Int)<(T.length:Int):=by omega
     have hj0:(0:Int)≤(j:Int):=by omega
     have hwj:IntKind.i64.wrap ((j:Int)+1)=((j+1:Nat):Int):=by rw[IntKind.wrap_i64];omega
     obtain⟨m,hm⟩:∃m,m=T.length-1-j:=⟨_,rfl⟩
     have hw1:IntKind.i64.wrap ((T.length:Int)-1)=(T.length:Int)-1:=by rw[IntKind.wrap_i64];omega
     have hw2:(T.length:Int)-1-(j:Int)=(m:Int):=by omega
     have hw3:IntKind.i64.wrap (m:Int)=(m:Int):=by rw[IntKind.wrap_i64];omega
     have hml:m<T.length:=by omega
     have hm':(m:Int)<(T.length:Int):=by omega
     have hm0:(0:Int)≤(m:Int):=by omega
     obtain⟨p,hp⟩:∃p,T[m]?=some p:=⟨_,List.getElem?_eq_getElem hml⟩
     have hpr:T.reverse[j]?=some p:=by rw[rev_at hlt2,←hm];exact hp
     obtain⟨g,off,hA,hgl,hc⟩:=(Reads.of_own (own_below HO4.out HBw.out (Nat.le_refl _))).2 (by omega);have r0:wr.cell? ⟨g,off+m*2,none⟩=some (.int .u64 (p.1:Int)):=hc (m*2+0) _ (pairC_at hp (by omega));have r1:wr.cell? ⟨g,off+m*2+1,none⟩=some (.int .u64 (p.2:Int)):=hc (m*2+1) _ (pairC_at hp (by omega));have HPr:=qd hpr;obtain⟨Ab,cb,hvb⟩:=own_form HBk.out;subst hvb;subst hA;have hrow6:=HBk.out;have hbs:=HBw.out.size;clear hc hp hpr hm;go_wp2_with (at_builtin;refine wpList_append1 rfl rfl slty_PlPair hrow6 rfl rfl rfl rfl rfl (by omega) (by omega) ?_;intro v7 w7 ho7 hg7)
     have HBk7:=qd (show w7.ownsRow w4.heap.size 29 2 v7 (j+1) ((T.reverse.take (j+1)).flatMap pairC)from by
      rw[List.take_add_one,HPr.out]
      simpa[pairC]using ho7)
     have HBw7:=qd (HBw.out.trans hg7.below);have HM:=qd (show T.length-(j+1)<T.length-j by omega);clear ho7 hg7 hrow6 HBk HBw;go_wp2;go_roundw
     case measure=>simp[intOf];exact HM.out
     exact⟨j+1,by omega,rfl,HBk7,HBw7⟩
    ·obtain rfl:j=T.length:=by omega
     have hlt2':¬(T.length:Int)<(T.length:Int):=by omega
     have hbk:=HBk.out;rw[List.take_of_length_le (by rw[List.length_reverse];exact Nat.le_refl _)]at hbk;obtain⟨Ab,cb,hvb⟩:=own_form hbk;subst hvb;clear hi hlong hlt hlt' hlong';obtain⟨Kq,hKq,a1,a2,a3,a4,a5⟩:=rem_nat k0 64 (by omega) (by omega);obtain⟨Kr,hKr,b1,b2,b3,b4',b5'⟩:=rem_nat k1 64 (by omega) (by omega);obtain⟨Qq,hQq,d1,d2,_,d4,_⟩:=rem_nat q0 6 (by omega) (by omega);obtain⟨Qr,hQr,f1,f2,_,f4,_⟩:=rem_nat q1 6 (by omega) (by omega);rw[show((64:Nat):Int)=64 from rfl]at a1 b1;rw[show((6:Nat):Int)=6 from rfl]at d1 f1;have x40:=(HB6.out.1.below HBw.out HB6.out.1.lt).cell 0;have x41:=(HB6.out.1.below HBw.out HB6.out.1.lt).cell 1;have x50:=(HB6.out.2.below HBw.out HB6.out.2.lt).cell 0;have x51:=(HB6.out.2.below HBw.out HB6.out.2.lt).cell 1;simp only[gl]at x40 x41 x50 x51;have HBr:=qd (HB5.out.trans (HBw.out.mono HB5.out.size));have HTr:=qd (own_below HO4.out HBw.out (Nat.le_refl _));have HKr:=qd hbk;have HLd:=qd (load_39 (c:=cT) (HX.out.2.1.next HBr.out) (HX.out.2.2.1.below HBr.out) (Reads.of_own HTr.out) rfl HTd.out.2.1 HTd.out.2.2 (asc_nodup HTd.out.1) hKq hQq);clear hbk HBk HBw HB5 HO4;go_wp2_with fail;refine HLd.out.mono ?_;rintro y w8 ⟨ma,Ga,rfl,⟨Ra,hRa,hRa2⟩,hGa,hb8⟩;have HMa:=qd (And.intro hRa (And.intro hRa2 hGa));have HB8:=qd (HBr.out.trans (hb8.mono HBr.out.size));have HT8:=qd (own_below HTr.out hb8 (Nat.le_refl _));have HK8:=qd (own_below HKr.out hb8 (Nat.le_refl _));have y41:=cell_in hb8 x41;have y51:=cell_in hb8 x51
     have HTl:=qd (And.intro (show∀q∈(Value.slice AT T.length cT).ownBlock.toList,q<wr.heap.size from fun q hq=>(HTr.out.lt q (by simpa using hq)).2) (And.intro hb8.size (And.intro HBr.out.size hRa.lts)));have HLd2:=qd (load_39 (c:=cb) (l:=T.reverse) (HX.out.2.1.next HB8.out) (HX.out.2.2.1.below HB8.out) (reads_rev HK8.out) List.length_reverse HTd.out.2.1 (fun p hp=>HTd.out.2.2 p (List.mem_reverse.1 hp)) (rev_nodup HTd.out.1) hKr hQr);clear hRa hRa2 hGa hb8 HLd HTr HKr HBr x40 x41 x50 x51;go_wp2_with fail;refine HLd2.out.mono ?_;rintro y w9 ⟨mb,Gb,rfl,⟨Rb,hRb,hRb2⟩,hGb,hb9⟩;have HMa9:=qd (HMa.out.1.below hb9);have HMb:=qd (And.intro hRb (And.intro hRb2 hGb));have HB9:=qd (HB8.out.trans (hb9.mono HB8.out.size));have HT9:=qd (own_below HT8.out hb9 (Nat.le_refl _));have HTa:=qd (mp_Take HMa9.out (Nat.le_refl 1) (Nat.zero_le _) HX.out.2.2.2.1);clear hRb hRb2 hGb hb9 HLd2 HT8 HK8 y41 y51 HB8;go_wp2_with fail;refine HTa.out.mono ?_;rintro y w10 ⟨vx,lx,Ga',rfl,hxa,hxg,hxo,hxap,hxm,hxs,hxM⟩;obtain rfl:lx=T:=fn_getP HTd.out.1 hxa hxg HMa.out.2.1;obtain⟨Ax,cx,rfl⟩:=own_form hxo;have HGa:=qd (show∀q∈Ga,wr.heap.size≤q∧q<w8.heap.size from fun q hq=>⟨HMa.out.2.2 q hq,(HTl.out.2.2.2 q hq).1⟩);have HT10:=qd (own_farK HT9.out hxM (fun q hq hg=>absurd (HTl.out.1 q hq) (Nat.not_lt.2 (HGa.out q hg).1)));have HMb10:=qd (HMb.out.1.mod hxM (fun q hq=>⟨fun hg=>absurd (HGa.out q hq).2 (Nat.not_lt.2 (HMb.out.2.2 q hg)),Nat.le_trans HTl.out.2.2.1 (HGa.out q hq).1⟩));have HX10:=qd hxo
     have HB10:=qd (HB9.out.trans (hxM.below (fun q hq=>Nat.le_trans HTl.out.2.2.1 (HGa.out q hq).1) HB9.out.size));have HGb:=qd (show∀q∈Gb,w8.heap.size≤q∧q<w9.heap.size from fun q hq=>⟨HMb.out.2.2 q hq,(HMb.out.1.lts q hq).1⟩);have HTb:=qd (mp_Take HMb10.out (Nat.le_refl 1) (Nat.zero_le _) HX.out.2.2.2.1);clear hxa hxg hxo hxap hxm hxs hxM HTa HMa9 HT9 HB9;go_wp2_with fail;refine HTb.out.mono ?_;rintro y w11 ⟨vy,ly,Gb',rfl,hya,hyg,hyo,hyap,hym,hys,hyM⟩;obtain rfl:ly=lx:=fn_getP HTd.out.1 hya hyg (fun k u=>(HMb.out.2.1 k u).trans List.mem_reverse);obtain⟨Ay,cy,rfl⟩:=own_form hyo;have HT11:=qd (own_farK HT10.out hyM (fun q hq hg=>absurd (Nat.lt_of_lt_of_le (HTl.out.1 q hq) HTl.out.2.1) (Nat.not_lt.2 (HGb.out q hg).1)));have HX11:=qd (own_farK HX10.out hyM (fun q hq hg=>absurd (HGb.out q hg).2 (Nat.not_lt.2 (HX10.out.lt q (by simpa using hq)).1)));have HY11:=qd hyo;have HB11:=qd (HB10.out.trans (hyM.below (fun q hq=>Nat.le_trans HTl.out.2.2.1 (Nat.le_trans HTl.out.2.1 (HGb.out q hq).1)) HB10.out.size));have hn1:ly.length≤100000:=Nat.le_trans HTd.out.2.1 (by decide);have hs1:=pl_Same (c:=cx) (c':=cT) (Reads.of_own HX11.out) (Reads.of_own HT11.out) hn1;rw[decide_eq_true (rfl:ly=ly)]at hs1;have HS1:=qd hs1;clear hya hyg hyo hyap hym hys hyM hs1 HTb HMb10 HT10 HX10 HB10 HMa HMb;go_wp2_with fail;refine HS1.out.mono ?_;rintro y w12 ⟨rfl,hb12⟩;have HT12:=qd (own_below HT11.out hb12 (Nat.le_refl _));have HX12:=qd (own_below HX11.out hb12 (Nat.le_refl _))
     have HY12:=qd (own_below HY11.out hb12 (Nat.le_refl _));have HB12:=qd (HB11.out.trans (hb12.mono HB11.out.size));have hs2:=pl_Same (c:=cy) (c':=cT) (Reads.of_own HY12.out) (Reads.of_own HT12.out) hn1;rw[decide_eq_true (rfl:ly=ly)]at hs2;have HS2:=qd hs2;clear hb12 hs2 HS1 HT11 HX11 HY11 HB11;go_wp2_with fail;refine HS2.out.mono ?_;rintro y w13 ⟨rfl,hb13⟩;have HX13:=qd (own_below HX12.out hb13 (Nat.le_refl _));have HY13:=qd (own_below HY12.out hb13 (Nat.le_refl _));have HB13:=qd (HB12.out.trans (hb13.mono HB12.out.size));have HM1:=qd (snap_Sum (c:=cx) (Reads.of_own HX13.out) hn1 HTd.out.2.2 (cell_in HB13.out HX.out.2.2.2.2));clear hb13 HS2 HT12 HX12 HY12 HB12;go_wp2_with fail;refine HM1.out.mono ?_;rintro y w14 ⟨rfl,hb14⟩;have HY14:=qd (own_below HY13.out hb14 (Nat.le_refl _));have HB14:=qd (HB13.out.trans (hb14.mono HB13.out.size));have HM2:=qd (snap_Sum (c:=cy) (Reads.of_own HY14.out) hn1 HTd.out.2.2 (cell_in HB14.out HX.out.2.2.2.2));clear hb14 HM1 HX13 HY13 HB13;go_wp2_with fail;refine HM2.out.mono ?_;rintro y w15 ⟨rfl,hb15⟩;have HB15:=qd (HB14.out.trans (hb15.mono HB14.out.size));clear hb15 HM2 HY14 HB14;go_wp2;go_ret;exact⟨rfl,HB15.out⟩
end Go.Proofs.YtchlkhkeonnmdacGreatDoor
