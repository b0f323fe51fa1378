/- Package tally: set whatever comes of it, Scale. No statement of the claim. -/
import Derived.Test.YtgkeameopnpinaaGreatDoorTyF
import Derived.Test.YtgkeameopnpinaaGreatDoorLaneP
import Derived.Test.YtgkeameopnpinaaGreatDoorCoO
namespace Go.Proofs.YtgkeameopnpinaaGreatDoor
set_option maxRecDepth 100000
set_option maxHeartbeats 16000000
open Go.RowKit bY rZ lH
section
def wO (R:Nat→Option Nat):Prop:=∀k v,R k=some v→k<18446744073709551616∧0<v∧v<9218868437227405312
theorem wO.del {R:Nat→Option Nat}(h:wO R)(key:Nat):wO (ED R key):=fun k v e=>by
 unfold ED at e;split at e
 ·cases e
 ·exact h k v e
theorem wO.put {M n:Nat}{R:Nat→Option Nat}(h:wO R){key x:Nat}(hk:key<18446744073709551616)(h0:0<x)(h1:x<9218868437227405312):wO (wN M R n key x):=fun k v e=>by
 unfold wN at e;split at e
 ·exact h k v e
 ·simp only at e;split at e
  ·rename_i hk2;obtain rfl:=Option.some.inj e;exact⟨hk2▸hk,h0,h1⟩
  ·exact h k v e
theorem abY {x:Nat}(hx:x<18446744073709551616)(hf:gV x=true)(hl:uI x=false):0<x∧x<9218868437227405312:=by
 rw[UZ (CU hf)]at hl;have h1:=of_decide_eq_false hl;unfold gV at hf;have h2:=of_decide_eq_true hf;unfold key at h1;split at h1
 ·omega
 ·rename_i hs
  have hs':oW x=false:=by simpa using hs
  have h3:x<9223372036854775808:=by
   rcases Nat.lt_or_ge x 9223372036854775808 with h|h
   ·exact h
   ·exfalso;unfold oW at hs';rw[show x/9223372036854775808=1 by omega]at hs';cases hs'
  unfold rung at h1 h2;omega
theorem RH {r:Nat}(h1:rung r≤9218868437227405312)(h2:pI r=false):gV r=true:=by
 unfold pI at h2;have:=of_decide_eq_false h2;unfold gV;exact decide_eq_true (by omega)
section
variable {W0 : World} {E : Nat → Addr} {kd K M I tb b : Nat} {G : List Nat} {w : World} {R : Nat → Option Nat} {n gv : Nat}
theorem abZ (h:fC W0 E kd K M I tb b G w R n gv)(hkd:kd≤5)(hR:wO R)(key:Nat)(hk:key<18446744073709551616)(x:Nat)(hx:x<18446744073709551616)(hf:gV x=true):
  Calls Tryz.prog 15 #[pQ tb,nU key,.float .f64 x] w fun y w'=>∃ev,y= .returned ev∧(ev= .nilIface∨ev= .iface 344 (.pointer (some (E 2))))∧∃R' n',wO R'∧iC W0 E kd K M I tb b G w w' R' n' gv:=by
 cases hl:uI x with
 |true=>
  refine(JO h hkd key hk x hl).mono ?_;rintro y w' ⟨rfl,hto⟩;exact⟨_,rfl,.inl rfl,_,_,hR.del key,hto⟩
 |false=>
  obtain⟨h0,h1⟩:=abY hx hf hl;refine(Ah h hkd key hk x hx hl).mono ?_;rintro y w' ⟨rfl,hto⟩;refine⟨_,rfl, ?_,_,_,hR.put hk h0 h1,hto⟩
  cases noRoom M (R key) n with
  |true=>exact .inr rfl
  |false=>exact .inl rfl
def zl (W0:World)(E:Nat→Addr)(kd K M I tb b:Nat)(G:List Nat)(w w':World)(gv:Nat):Prop:=∃R' n' oV,wO R'∧oV≤gv+1∧iC W0 E kd K M I tb b G w w' R' n' oV
theorem ady (h:fC W0 E kd K M I tb b G w R n gv)(hkd:kd≤5)(hR:wO R)(hI:1≤I)(hg:gv≤100000)(h6:dV E W0 6)(U0:dV E W0 13)(h11:dV E W0 11)(f:Nat)(hf:f<18446744073709551616):
  Calls Tryz.prog 7 #[pQ tb,.float .f64 f] w fun y w'=>∃u v,y= .returned (.tuple #[u,v])∧zl W0 E kd K M I tb b G w w' gv:=by
 have HF:=qd (fun(W:World)=>jL f hf W);have hb0:=(Below.refl w.heap.size w).alloc (Nat.le_refl _) (.cells #[.float .f64 f] 24);have hX:=aj.new w 24 #[.float .f64 f];obtain⟨W,hW⟩:∃W,W=w.alloc (.cells #[.float .f64 f] 24):=⟨_,rfl⟩;obtain⟨bf,hbf⟩:∃q,q=w.heap.size:=⟨_,rfl⟩;rw[←hW,←hbf]at hX;rw[←hW]at hb0;have x0:=hX.cell 0;simp only[List.getElem?_toArray,List.getElem?_cons_zero]at x0;have hT0:=h.below hb0;have e13:=U0.below hT0.env.below (Nat.le_refl _);unfold dV at e13;simp only[gE]at e13;have HS:=qd (iC.same h hb0);have Pv:=qd (fun(q:Nat) (hq:q∈G)=>(h.fA q hq).1);have HT0:=qd hT0
 have hbW:bf<W.heap.size:=by rw[hbf,hW,World.size_alloc];exact Nat.lt_succ_self _
 have Nq:=qd (And.intro hbf hbW);have HW:=qd (And.intro hW hbf);have HR:=qd hR;have H11:=qd h11;have PO:=qd (U3 hT0 hI hg h6 (fun k v e=>Nat.lt_trans (hR k v e).2.2 (by decide)));have HB0:=qd hb0;have HRl:=qd (Nat.le_refl gv)
 have hM:n≤192:=by
  obtain⟨F,_,hM,_⟩:=h;have:=hM.least;omega
 clear h U0 h11 hT0 hX hb0 hW hbf hg h6 hI hbW
 cases hfin:gV f with
 |false=>
  rw[hfin]at HF
  have HZ:=qd (show zl W0 E kd K M I tb b G w W.drew gv from⟨R,n,gv,hR,Nat.le_succ _,by
   obtain⟨G',a1,a2,a3⟩:=HS.out
   exact⟨G',a1.below (Below.refl W.heap.size W).drew,a2,a3.then (Mod.of_below (Below.refl W.heap.size W).drew G)⟩⟩)
  clear hR HT0 HS PO;go_in;go_upto_region 1 with fail;rw[←HW.out.1,←HW.out.2];go_wp2_with fail;refine(HF.out _).mono ?_;rintro y wq ⟨rfl,rfl⟩;go_upto_region 2 with fail;go_region;go_wp2;refine bodyPost_ret (v:= .tuple #[.int .i64 0,.iface 344 (.pointer (some (E 13)))]) (by simp[results,Tryz.results7,go_sem]) rfl (by first|exact⟨_,_,rfl,HZ.out⟩|exact HZ.out|exact⟨⟨_,_,rfl⟩,HZ.out⟩|exact⟨⟨⟨_,rfl⟩,_,rfl⟩,HZ.out⟩)
 |true=>
  rw[hfin]at HF;have HFin:=qd hfin;clear hfin
  cases hneg:(FloatKind.f64.format.order f 0==some .lt)with
  |true=>
   have HZ:=qd (show zl W0 E kd K M I tb b G w W.drew gv from⟨R,n,gv,hR,Nat.le_succ _,by
    obtain⟨G',a1,a2,a3⟩:=HS.out
    exact⟨G',a1.below (Below.refl W.heap.size W).drew,a2,a3.then (Mod.of_below (Below.refl W.heap.size W).drew G)⟩⟩)
   clear hR HT0 HS PO;go_in;go_upto_region 1 with fail;rw[←HW.out.1,←HW.out.2];go_wp2_with fail;refine(HF.out _).mono ?_;rintro y wq ⟨rfl,rfl⟩;go_upto_region 2 with fail;go_region;go_wp2;refine bodyPost_ret (v:= .tuple #[.int .i64 0,.iface 344 (.pointer (some (E 13)))]) (by simp[results,Tryz.results7,go_sem]) rfl (by first|exact⟨_,_,rfl,HZ.out⟩|exact HZ.out|exact⟨⟨_,_,rfl⟩,HZ.out⟩|exact⟨⟨⟨_,rfl⟩,_,rfl⟩,HZ.out⟩)
  |false=>
   clear hR;go_in;go_upto_region 1 with fail;rw[←HW.out.1,←HW.out.2];go_wp2_with fail;refine(HF.out _).mono ?_;rintro y wq ⟨rfl,rfl⟩;go_wp2_with fail;refine PO.out.mono ?_;rintro y w1 ⟨v,l,G1,rfl,hP⟩;have hlow:EL l:=fun p hp=>(HR.out p.1 p.2 (by rw[←hP.get];exact(jU hP.qH).2 hp)).2.2;have adz:=qd (show∀p∈l,p.1<18446744073709551616 from fun p hp=>(HR.out p.1 p.2 (by rw[←hP.get];exact(jU hP.qH).2 hp)).1);have adA:=qd hlow;obtain⟨A5,c5,hv5⟩:=bE hP.row;subst hv5;obtain⟨nn,hnn⟩:∃q,q=n:=⟨_,rfl⟩;obtain rfl:=hP.len;clear hnn nn
   have XW:bf∉G:=fun hq=>by have:=Pv.out bf hq;have:=Nq.out.1;omega
   have hx1:w1.cell? ⟨bf,0,none⟩=some (.float .f64 f):=by
    have hb:=hP.mod.block bf Nq.out.2 XW;rw[←x0];unfold World.cell?;rw[hb]
   have ab0:bf∉G1:=fun hq=>by
    rcases hP.sub bf hq with k|k
    ·exact XW k
    ·have:=Nq.out.2;omega
   have ab1:=qd (acC (bf:=bf) (c:=c5) (Reads.lK hP.row) (by omega) hlow HFin.out hx1);have HP:=qd hP;have HX1:=qd (And.intro hx1 ab0);clear hP hlow XW hx1 ab0 x0 e13 PO HT0;go_wp2_with fail;refine ab1.out.mono ?_;rintro y w2 ⟨z,rfl,hz,hb2⟩;have hm2:Mod G w w2:=(HB0.out.mono (Nat.le_refl _)|>fun hb=>(Mod.of_below hb G)).then (HP.out.mod.then (Mod.of_below hb2 G));have ht2:=HP.out.at_.below hb2;have e11:=H11.out.below ht2.env.below (Nat.le_refl _);unfold dV at e11;simp only[gE]at e11;have HT2:=qd (show fC W0 E kd K M I tb b G1 w2 R l.length (gv+1)∧(∀q∈G1,q∈G∨w.heap.size≤q)∧Mod G w w2 from⟨ht2,fun q hq=>(HP.out.sub q hq).imp id (fun k=>Nat.le_trans HB0.out.size k),hm2⟩);have Y6:=qd (And.intro (aD hb2 HX1.out.1) HX1.out.2);have xg:=qd (And.intro (own_below HP.out.row hb2 (Nat.le_refl _)) HP.out.apart);have hs2:=hb2.size;have HS2:=qd (Nat.le_trans HP.out.mod.size hs2);clear hm2 ht2 hb2 ab1 HX1
   cases z with
   |true=>
    have HZ:=qd (show zl W0 E kd K M I tb b G w w2.drew gv from⟨R,l.length,gv+1,HR.out,Nat.le_refl _,G1,HT2.out.1.below (Below.refl w2.heap.size w2).drew,HT2.out.2.1,HT2.out.2.2.then (Mod.of_below (Below.refl w2.heap.size w2).drew G)⟩);clear HT2 Y6 xg hz;go_upto_region 5 with fail;go_region;go_wp2;refine bodyPost_ret (v:= .tuple #[.int .i64 0,.iface 344 (.pointer (some (E 11)))]) (by simp[results,Tryz.results7,go_sem]) rfl (by first|exact⟨_,_,rfl,HZ.out⟩|exact HZ.out|exact⟨⟨_,_,rfl⟩,HZ.out⟩|exact⟨⟨⟨_,rfl⟩,_,rfl⟩,HZ.out⟩)
   |false=>
    have YN:=qd (hz rfl);clear hz e11;have ab2:=qd (Nat.lt_of_lt_of_le Nq.out.2 HS2.out);go_wp2;go_loopw [7,28] (fun v7 v28 wr=>∃(i:Nat) (R1:Nat→Option Nat) (n1:Nat) (g7:Int) (G2:List Nat),i≤l.length∧v28=nI i∧v7= .int .i64 g7∧Hid (wO R1)∧Hid (fC W0 E kd K M I tb b G2 wr R1 n1 (gv+1))∧Hid (∀q∈G2,q∈G∨w.heap.size≤q)∧Hid (Mod G w wr)∧Hid (wr.cell? ⟨bf,0,none⟩=some (.float .f64 f)∧bf∉G2∧bf<wr.heap.size)∧Hid (wr.ownsRow W.heap.size 43 2 (.slice A5 l.length c5) l.length (l.flatMap wC)∧∀q∈(Value.slice A5 l.length c5).ownBlock.toList,q∉G2)) (fun _ v28 _=>l.length-(intOf v28).toNat)
    case atStart=>exact⟨0,R,l.length,0,G1,by omega,rfl,rfl,HR,qd HT2.out.1,qd HT2.out.2.1,qd HT2.out.2.2,qd ⟨Y6.out.1,Y6.out.2,ab2.out⟩,xg⟩
    case round=>
     clear HT2 Y6 xg HP HR HS2 ab2 HS;obtain⟨i,R1,n1,g7,G2,hi,rfl,rfl,U8,OW,JV,Px,U9,Va⟩:=hrel;by_cases hlt:i<l.length
     ·have hlt':(i:Int)<(l.length:Int):=by omega
      have hi0:(0:Int)≤(i:Int):=by omega
      have hwi:IntKind.i64.wrap ((i:Int)+1)=((i+1:Nat):Int):=by rw[IntKind.wrap_i64];omega
      obtain⟨p,hp⟩:∃p,l[i]?=some p:=⟨_,List.getElem?_eq_getElem hlt⟩;obtain⟨g,off,hA,hgl,hc⟩:=(Reads.lK Va.out.1).2 (by omega);have r0:wr.cell? ⟨g,off+i*2,none⟩=some (nU p.1):=hc (i*2+0) _ (Gt hp (by omega));have r1:wr.cell? ⟨g,off+i*2+1,none⟩=some (.float .f64 p.2):=hc (i*2+1) _ (Gt hp (by omega));subst hA;have hpm:=List.mem_of_getElem? hp;have hpl:=adA.out p hpm;have hpk:=adz.out p hpm;obtain⟨r,hr⟩:∃r,r=Aj p.2 f:=⟨_,rfl⟩;have hmw:=PS (Ia hpl) HFin.out;rw[←hr]at hmw;have XY:=YN.out p hpm;rw[←hr]at XY;have hrf:=RH (XR (Ia hpl) HFin.out hmw) XY;have hmul:=fun t V=>Ny hmw t V;have ab3:=Nz hmw;have Np:=qd (And.intro hpk (And.intro ab3 hrf));clear hc hp hpm hpl hpk hmw XY hrf hr ab3;have adB:=fun(a:Addr) m (V:World)=>run_store Tryz.prog V a (.float .f64 p.2) m rfl;go_upto_region 10 with fail;clear adB;refine dA (F:=fun v=>aj v wr.heap.size 43 #[nU p.1,.float .f64 p.2]∧Below wr.heap.size wr v) ⟨aj.new wr 43 #[nU p.1,.float .f64 p.2],(Below.refl wr.heap.size wr).alloc (Nat.le_refl _) _⟩ ?_;rintro w6 ⟨nk,hb6⟩;obtain⟨bx,hbx⟩:∃bx,bx=wr.heap.size:=⟨_,rfl⟩;rw[←hbx]at nk⊢;have y0:=nk.cell 0;have y1:=nk.cell 1;have z0:=aD hb6 U9.out.1;simp only[gl]at y0 y1;have RI:=qd (abZ (OW.out.below hb6) hkd U8.out p.1 Np.out.1 r Np.out.2.1 Np.out.2.2);have IK:=qd (Px.out.then (Mod.of_below hb6 G));have xS:=qd (show w6.cell? ⟨bf,0,none⟩=some (.float .f64 f)∧bf∉G2∧bf<w6.heap.size from⟨z0,U9.out.2.1,Nat.lt_of_lt_of_le U9.out.2.2 hb6.size⟩)
      have PU:=qd (own_below Va.out.1 hb6 (Nat.le_refl _));have PV:=qd Va.out.2;have HM:=qd (show l.length-(i+1)<l.length-i by omega);clear nk hb6 hbx r0 r1 OW Px U9 Va;cases heq:(FloatKind.f64.format.order r 0==some .eq)
      case' true=>
       go_wp2_with fail;refine RI.out.mono ?_;rintro y w7 ⟨ev,rfl,hev,R2,n2,hI2,G3,a1,a2,a3⟩;have Vb:=qd (show∀q∈G3,q∈G∨w.heap.size≤q from fun q hq=>(a2 q hq).elim (JV.out q) (fun k=> .inr (Nat.le_trans IK.out.size k)));have Lb:=qd (show Mod G w w7 from IK.out.trans a3 (fun _ hk _=>hk) (fun q hq hl=>(JV.out q hq).elim id (fun k=>absurd hl (by omega))))
       have Y7:=qd (show w7.cell? ⟨bf,0,none⟩=some (.float .f64 f)∧bf∉G3∧bf<w7.heap.size from⟨by
        have hb:=a3.block bf xS.out.2.2 xS.out.2.1;rw[←xS.out.1];unfold World.cell?
        rw[hb],fun hq=>by
        rcases a2 bf hq with k|k
        ·exact xS.out.2.1 k
        ·have:=xS.out.2.2;omega,Nat.lt_of_lt_of_le xS.out.2.2 a3.size⟩)
       have AJ:=qd (show w7.ownsRow W.heap.size 43 2 (.slice (some ⟨g,off,none⟩) l.length c5) l.length (l.flatMap wC)∧∀q∈(Value.slice (some ⟨g,off,none⟩) l.length c5).ownBlock.toList,q∉G3 from⟨EG PU.out a3 (fun q hq=>PV.out q hq),fun q hq hG=>by
        rcases a2 q hG with k|k
        ·exact PV.out q hq k
        ·have:=(PU.out.lt q (by simpa using hq)).2;omega⟩)
       have xQ:=qd a1;have Vd:=qd hI2;clear a1 a2 a3 hI2 RI IK xS PU PV JV U8;rcases hev with rfl|rfl
       ·go_wp2;go_roundw
        case measure=>simp[intOf];exact HM.out
        exact⟨i+1,R2,n2,_,G3,by omega,rfl,rfl,Vd,xQ,Vb,Lb,Y7,AJ⟩
      case' false=>
       go_wp2_with fail;refine RI.out.mono ?_;rintro y w7 ⟨ev,rfl,hev,R2,n2,hI2,G3,a1,a2,a3⟩;have Vb:=qd (show∀q∈G3,q∈G∨w.heap.size≤q from fun q hq=>(a2 q hq).elim (JV.out q) (fun k=> .inr (Nat.le_trans IK.out.size k)));have Lb:=qd (show Mod G w w7 from IK.out.trans a3 (fun _ hk _=>hk) (fun q hq hl=>(JV.out q hq).elim id (fun k=>absurd hl (by omega))))
       have Y7:=qd (show w7.cell? ⟨bf,0,none⟩=some (.float .f64 f)∧bf∉G3∧bf<w7.heap.size from⟨by
        have hb:=a3.block bf xS.out.2.2 xS.out.2.1;rw[←xS.out.1];unfold World.cell?
        rw[hb],fun hq=>by
        rcases a2 bf hq with k|k
        ·exact xS.out.2.1 k
        ·have:=xS.out.2.2;omega,Nat.lt_of_lt_of_le xS.out.2.2 a3.size⟩)
       have AJ:=qd (show w7.ownsRow W.heap.size 43 2 (.slice (some ⟨g,off,none⟩) l.length c5) l.length (l.flatMap wC)∧∀q∈(Value.slice (some ⟨g,off,none⟩) l.length c5).ownBlock.toList,q∉G3 from⟨EG PU.out a3 (fun q hq=>PV.out q hq),fun q hq hG=>by
        rcases a2 q hG with k|k
        ·exact PV.out q hq k
        ·have:=(PU.out.lt q (by simpa using hq)).2;omega⟩)
       have xQ:=qd a1;have Vd:=qd hI2;clear a1 a2 a3 hI2 RI IK xS PU PV JV U8;rcases hev with rfl|rfl
       ·go_wp2;go_roundw
        case measure=>simp[intOf];exact HM.out
        exact⟨i+1,R2,n2,g7,G3,by omega,rfl,rfl,Vd,xQ,Vb,Lb,Y7,AJ⟩
      all_goals
       ·have HZ:=qd (show zl W0 E kd K M I tb b G w w7 gv from⟨R2,n2,gv+1,Vd.out,Nat.le_refl _,G3,xQ.out,Vb.out,Lb.out⟩);clear xQ Y7 AJ Vb Lb Vd;go_wp2;refine bodyPost_ret (v:= .tuple #[.int .i64 0,.iface 344 (.pointer (some (E 2)))]) (by simp[results,Tryz.results7,go_sem]) rfl (by first|exact⟨_,_,rfl,HZ.out⟩|exact HZ.out|exact⟨⟨_,_,rfl⟩,HZ.out⟩|exact⟨⟨⟨_,rfl⟩,_,rfl⟩,HZ.out⟩)
     ·obtain rfl:i=l.length:=by omega
      have hlt':¬(l.length:Int)<(l.length:Int):=by omega
      have HZ:=qd (show zl W0 E kd K M I tb b G w wr gv from⟨R1,n1,gv+1,U8.out,Nat.le_refl _,G2,OW.out,JV.out,Px.out⟩);clear OW Px U9 Va JV U8;go_wp2;refine bodyPost_ret (v:= .tuple #[.int .i64 g7,.nilIface]) (by simp[results,Tryz.results7,go_sem]) rfl (by first|exact⟨_,_,rfl,HZ.out⟩|exact HZ.out|exact⟨⟨_,_,rfl⟩,HZ.out⟩|exact⟨⟨⟨_,rfl⟩,_,rfl⟩,HZ.out⟩)
end
end
section
def TyIn (W0:World)(E:Nat→Addr)(kd K M I tb b:Nat)(w0 w:World)(R:Nat→Option Nat)(n gv:Nat):Prop:=∃G,fC W0 E kd K M I tb b G w R n gv∧(∀q∈G,w0.heap.size≤q)∧Below w0.heap.size w0 w
section
variable {W0 : World} {E : Nat → Addr} {kd K M I tb b : Nat} {G G' : List Nat} {w0 w w' : World} {R R' : Nat → Option Nat} {n n' gv oV : Nat}
theorem TyIn.of (hq:∀q∈G,w0.heap.size≤q)(hb:Below w0.heap.size w0 w)(h:iC W0 E kd K M I tb b G w w' R' n' oV):TyIn W0 E kd K M I tb b w0 w' R' n' oV:=by
 obtain⟨G',a1,a2,a3⟩:=h;exact⟨G',a1,fun q h=>(a2 q h).elim (hq q) (fun k=>Nat.le_trans hb.size k),hb.trans (a3.below hq hb.size)⟩
theorem TyIn.made (hA:fC W0 E kd K M I tb b G' w' R' n' oV)(hs:∀q∈G',q∈G∨w.heap.size≤q)(hm:Mod G w w')(hq:∀q∈G,w0.heap.size≤q)(hb:Below w0.heap.size w0 w):TyIn W0 E kd K M I tb b w0 w' R' n' oV:=TyIn.of hq hb ⟨G',hA,hs,hm⟩
theorem TyIn.below (h:TyIn W0 E kd K M I tb b w0 w R n gv)(hb:Below w.heap.size w w'):TyIn W0 E kd K M I tb b w0 w' R n gv:=by
 obtain⟨G,a1,a2,a3⟩:=h;exact⟨G,a1.below hb,a2,a3.trans (hb.mono a3.size)⟩
end
theorem putF_room {M n k v:Nat}{R:Nat→Option Nat}(h:noRoom M (R k) n=false):wN M R n k v=fun x=>if x=k then some v else R x:=by
 unfold wN;rw[h];rfl
def TalA:Nat→Option Nat:=fun x=>if x=1 then some 4602678819172646912 else none
def TalB:Nat→Option Nat:=fun x=>if x=1 then some 4604930618986332160 else none
def TalC:Nat→Option Nat:=fun x=>if x=2 then some 4613937818241073152 else if x=1 then some 4604930618986332160 else none
theorem r1_eq:wN 5 (fun _=>none) 0 1 4602678819172646912=TalA:=putF_room rfl
theorem r2_eq:wN 5 TalA 1 1 4604930618986332160=TalB:=by
 rw[putF_room rfl];funext x;unfold TalA TalB
 by_cases h:x=1<;>simp[h]
theorem r3_eq:wN 5 TalB 1 2 4613937818241073152=TalC:=putF_room rfl
theorem add_three:Ieee.double.add 4602678819172646912 4598175219545276416=some 4604930618986332160:=by decide+kernel
theorem add_h:Ieee.double.add 0 4602678819172646912=some 4602678819172646912:=by decide+kernel
theorem add_t:Ieee.double.add 0 4613937818241073152=some 4613937818241073152:=by decide+kernel
theorem ascW_ext:∀{l m:PL},jG l→jG m→(∀p,p∈l↔p∈m)→l=m
 | [],[],_,_,_=>rfl
 | [],y::m,_,_,h=>by have:=(h y).2 (by simp);simp at this
 |x::l,[],_,_,h=>by have:=(h x).1 (by simp);simp at this
 |x::l,y::m,hl,hm,h=>by
  have hl':=List.pairwise_cons.1 hl;have hm':=List.pairwise_cons.1 hm
  have hxy:x=y:=by
   rcases List.mem_cons.1 ((h x).1 (by simp))with e|e
   ·exact e
   ·rcases List.mem_cons.1 ((h y).2 (by simp))with e2|e2
    ·exact e2.symm
    ·have:=hm'.1 x e;have:=hl'.1 y e2;omega
  subst hxy;congr 1;refine ascW_ext hl'.2 hm'.2 fun p=>⟨fun hp=> ?_,fun hp=> ?_⟩
  ·rcases List.mem_cons.1 ((h p).1 (by simp[hp]))with rfl|e
   ·have:=hl'.1 _ hp;omega
   ·exact e
  ·rcases List.mem_cons.1 ((h p).2 (by simp[hp]))with rfl|e
   ·have:=hm'.1 _ hp;omega
   ·exact e
theorem ascW_same {l m:PL}(hl:jG l)(hm:jG m)(h:∀k,ny l k=ny m k):l=m:=
 ascW_ext hl hm fun p=>by rw[←jU hl (k:=p.1) (v:=p.2),←jU hm (k:=p.1) (v:=p.2),h]
theorem l3_of {l:PL}(ha:jG l)(hl:∀k,ny l k=TalC k):l=[(1,4604930618986332160),(2,4613937818241073152)]:=by
 refine ascW_same ha (by unfold jG;simp) fun k=> ?_;rw[hl];unfold TalC ny;by_cases h1:k=1
 ·subst h1;rfl
 ·by_cases h2:k=2
  ·subst h2;rfl
  ·simp[h1,h2,show¬1=k by omega,show¬2=k by omega]
theorem top3_of {l':PL}(hp:l'.Perm [(1,4604930618986332160),(2,4613937818241073152)])(hs:l'.Pairwise GeW):l'=[(2,4613937818241073152),(1,4604930618986332160)]:=by
 have hlen:=hp.length_eq
 match l',hlen with
 | [a,c],_=>
  have ha:a=(1,4604930618986332160)∨a=(2,4613937818241073152):=by have:=hp.mem_iff.1 (show a∈[a,c] by simp);simpa using this
  have hc:c=(1,4604930618986332160)∨c=(2,4613937818241073152):=by have:=hp.mem_iff.1 (show c∈[a,c] by simp);simpa using this
  have hnd:([a,c]:PL).Nodup:=hp.nodup_iff.2 (by decide)
  have hge:GeW a c:=by simpa using hs
  rcases ha with rfl|rfl<;>rcases hc with rfl|rfl
  ·simp at hnd
  ·unfold GeW at hge;simp at hge
  ·rfl
  ·simp at hnd
theorem eq_W2 (W:World):(binOp .eql 43 (.agg #[.int .u64 2,.float .f64 4613937818241073152]) (.agg #[.int .u64 2,.float .f64 4613937818241073152])).run Tryz.prog W= .ok (.bool true) W:=by kernel_rfl
theorem alive47 {W0:World}{E:Nat→Addr}{w:World}(hE:Env W0 E w)(hMw:Ae w)(h6:dV E W0 6):Calls Tryz.prog 4 #[] w fun e w'=>e= .returned (.bool true)∧Below w.heap.size w w':=by
 have HN:=qd (adH hE 1 (by omega) hMw 1 5 1 (by decide) 1 5 1 (by omega) (by omega));have H6:=qd h6;unfold jS at HN;clear hE hMw h6;go_in;go_wp2_with fail;refine HN.out.mono ?_;rintro y w1 ⟨tb,b,G0,rfl,hA0,hq0,hb0⟩;have HA0:=qd (show TyIn W0 E 1 1 5 1 tb b w w1 (fun _=>none) 0 0 from⟨G0,hA0,hq0,hb0⟩);have uM:=qd (acz hA0 (by omega) 1 4602678819172646912 4602678819172646912 (by decide) (by decide) (by decide) add_h (by decide) (by decide) rfl);rw[r1_eq]at uM;have HQ0:=qd (And.intro hq0 hb0);clear hA0 hq0 hb0 HN;go_wp2_with fail;refine uM.out.mono ?_;rintro y w2 ⟨rfl,hto⟩;obtain⟨G1,hA1,hq1,hb1⟩:=TyIn.of HQ0.out.1 HQ0.out.2 hto;have wF:=qd (acz hA1 (by omega) 1 4598175219545276416 4604930618986332160 (by decide) (by decide) (by decide) add_three (by decide) (by decide) rfl);have wF:=qd (show Calls Tryz.prog 6 #[pQ tb,.int .u64 1,.float .f64 4598175219545276416] w2 (fun y w'=>y= .returned (.tuple #[.float .f64 4604930618986332160,.nilIface])∧iC W0 E 1 1 5 1 tb b G1 w2 w' TalB 1 0)from by rw[←r2_eq];exact wF.out);have HQ1:=qd (And.intro hq1 hb1);clear hA1 hq1 hb1 hto uM HQ0 HA0;go_wp2_with fail;refine wF.out.mono ?_;rintro y w3 ⟨rfl,hto⟩;obtain⟨G2,hA2,hq2,hb2⟩:=TyIn.of HQ1.out.1 HQ1.out.2 hto
 have nD:=qd (show Calls Tryz.prog 6 #[pQ tb,.int .u64 2,.float .f64 4613937818241073152] w3 (fun y w'=>y= .returned (.tuple #[.float .f64 4613937818241073152,.nilIface])∧iC W0 E 1 1 5 1 tb b G2 w3 w' TalC 2 0)from by
  rw[←r3_eq]
  exact acz hA2 (by omega) 2 4613937818241073152 4613937818241073152 (by decide) (by decide) (by decide) add_t (by decide) (by decide) rfl)
 have HQ2:=qd (And.intro hq2 hb2);clear hA2 hq2 hb2 hto wF HQ1;go_wp2_with fail;refine nD.out.mono ?_;rintro y w4 ⟨rfl,hto⟩;obtain⟨G3,hA3,hq3,hb3⟩:=TyIn.of HQ2.out.1 HQ2.out.2 hto
 have HTo:=qd (adI hA3 (by omega) (by omega) H6.out (fun k v e=>by
  unfold TalC at e;split at e
  ·obtain rfl:=Option.some.inj e;decide
  ·split at e
   ·obtain rfl:=Option.some.inj e;decide
   ·cases e) 1 1 (by decide))
 have HQ3:=qd (And.intro hq3 hb3);clear hA3 hq3 hb3 hto nD HQ2;go_wp2_with fail;refine HTo.out.mono ?_;rintro y w5 ⟨v,l,l',G4,rfl,hP⟩;have hl:=l3_of hP.qH hP.get;have hl':=top3_of (hl▸hP.perm) hP.sorted;have hrow:=hP.row;rw[hl']at hrow;obtain⟨A5,c5,hv5⟩:=bE hrow;subst hv5;have IG:=Reads.lK hrow;obtain⟨g,off,TW,_,hc⟩:=IG.2 (by decide);subst TW;have k0:w5.cell? ⟨g,off,none⟩=some (.int .u64 2):=hc 0 _ rfl;have k1:w5.cell? ⟨g,off+1,none⟩=some (.float .f64 4613937818241073152):=hc 1 _ rfl;have HB:=qd (hP.mod.below HQ3.out.1 HQ3.out.2.size);have FP:=qd (HQ3.out.2.trans HB.out);have hee:=eq_W2;clear hl hl' hrow IG hc hP HTo HQ3 HB;go_wp2;go_ret;exact⟨rfl,FP.out⟩
end
section
variable {R : Nat → Option Nat} {M key n : Nat} {G : List Nat} {w w' : World} {l : PL}
theorem inv_fin (h:wO R)(key:Nat):gV ((R key).getD 0)=true:=by
 cases hr:R key with
 |none=>decide
 |some v=>exact Ia (h key v hr).2.2
theorem ty_Add_any {W0:World}{E:Nat→Addr}{kd K I tb b:Nat}{gv:Nat}(h:fC W0 E kd K M I tb b G w R n gv)(hkd:kd≤5)(hR:wO R)(U0:dV E W0 13)(h11:dV E W0 11)(key f:Nat)(hk:key<18446744073709551616)(hf:f<18446744073709551616):
  Calls Tryz.prog 6 #[pQ tb,nU key,.float .f64 f] w fun y w'=>∃u v,y= .returned (.tuple #[u,v])∧∃R' n',wO R'∧iC W0 E kd K M I tb b G w w' R' n' gv:=by
 cases hn:gV f with
 |false=>
  refine(acw h U0 key f hf hn).mono ?_;rintro y w' ⟨rfl,hto⟩;exact⟨_,_,rfl,_,_,hR,hto⟩
 |true=>
  obtain⟨r,ha⟩:=add_fin (inv_fin hR key) hn
  cases hr:gV r with
  |false=>
   refine(acy h hkd h11 key f r hk hf hn ha hr).mono ?_;rintro y w' ⟨rfl,hto⟩;exact⟨_,_,rfl,_,_,hR,hto⟩
  |true=>
   cases hl:uI r with
   |true=>
    refine(acF h hkd key f r hk hf hn ha hr hl).mono ?_;rintro y w' ⟨rfl,hto⟩;exact⟨_,_,rfl,_,_,hR.del key,hto⟩
   |false=>
    obtain⟨p0,p1⟩:=abY (mW ha) hr hl
    cases hm:noRoom M (R key) n with
    |true=>
     refine(ab4 h hkd key f r hk hf hn ha hr hl hm).mono ?_;rintro y w' ⟨rfl,hto⟩;exact⟨_,_,rfl,_,_,hR.put hk p0 p1,hto⟩
    |false=>
     refine(acz h hkd key f r hk hf hn ha hr hl hm).mono ?_;rintro y w' ⟨rfl,hto⟩;exact⟨_,_,rfl,_,_,hR.put hk p0 p1,hto⟩
theorem unary_negW (x:Nat)(W:World):(Op.unary UnOp.neg (.float .f64 x)).run Tryz.prog W= .ok (.float .f64 (afj x)) W:=rfl
theorem neg_word {r:Nat}(h:r<9223372036854775808):afj r=9223372036854775808+r:=by
 unfold afj
 have h2:(9223372036854775808:Nat)=2^63:=by decide
 have ht:r.testBit 63=false:=Nat.testBit_lt_two_pow (by rw[←h2];exact h);have h4:=Nat.two_pow_add_eq_or_of_lt (show r<2^63 by rw[←h2];exact h) 1;rw[Nat.mul_one]at h4;rw[h2,h4];apply Nat.eq_of_testBit_eq;intro i;rw[Nat.testBit_xor,Nat.testBit_or];by_cases hi:i=63
 ·subst hi;rw[ht,Nat.testBit_two_pow_self];rfl
 ·rw[Nat.testBit_two_pow_of_ne (Ne.symm hi)];simp
theorem del_none (h:R key=none):ED R key=R:=by
 funext x;unfold ED;by_cases hx:x=key
 ·rw[if_pos hx,hx,h]
 ·rw[if_neg hx]
theorem del_put {v:Nat}(h:R key=none)(hm:noRoom M (R key) n=false):ED (wN M R n key v) key=R:=by
 rw[putF_room hm];funext x;unfold ED;by_cases hx:x=key
 ·rw[if_pos hx,hx,h]
 ·rw[if_neg hx];show(if x=key then some v else R x)=R x;rw[if_neg hx]
theorem eqIn_W (k v:Nat)(hv:dX v=false)(W:World):(Op.equalIn 10000 43 (.agg #[nU k,.float .f64 v]) (.agg #[nU k,.float .f64 v])).run Tryz.prog W= .ok true W:=by
 have hS:Tryz.prog.underlying 43 =some (.struct (Tryz.prog.fieldsOf 43)):=by kernel_rfl
 have hp:Tryz.prog.stoodInHeld 43 =false:=by kernel_rfl
 have ho:(FloatKind.f64.format.order v v==some .eq)=true:=by rw[abP hv hv];simp
 have hd:∀d:Nat,(Op.equalIn (d+1) 24 (.float .f64 v) (.float .f64 v)).run Tryz.prog W= .ok true W:=fun d=>by
  simp[Op.equalIn,run_underlying Tryz.underlying24,Op.floatEq,ho]
 have hf:(Op.equalIn 9999 24 (.float .f64 v) (.float .f64 v)).run Tryz.prog W= .ok true W:=hd 9998;clear hd;rw[show(10000:Nat)=9999+1 from rfl,run_equalIn_agg W 9999 43 _ _ hS hp];simp only[Program.fieldsOf,Tryz.underlying43];go_simp
def RowW (w:World)(G:List Nat)(v:Value)(l:PL):Prop:=w.ownsRow 0 43 2 v l.length (l.flatMap wC)∧∀q∈v.ownBlock.toList,q∉G
theorem RowW.to {G':List Nat}{v:Value}(h:RowW w G v l)(a2:∀q∈G',q∈G∨w.heap.size≤q)(a3:Mod G w w'):RowW w' G' v l:=
 ⟨EG h.1 a3 h.2,fun q hq hG=>(a2 q hG).elim (h.2 q hq) (fun k=>by have:=(h.1.lt q (by simpa using hq)).2;omega)⟩
theorem RowW.below {v:Value}(h:RowW w G v l)(hb:Below w.heap.size w w'):RowW w' G v l:=
 ⟨EG h.1 (Mod.of_below hb []) (by simp),h.2⟩
theorem RowW.cell {v:Value}(h:RowW w G v l){i:Nat}{p:Nat×Nat}(hp:l[i]?=some p):∃g c,v= .slice (some ⟨g,0,none⟩) l.length c∧g∉G∧w.cell? ⟨g,i*2,none⟩=some (nU p.1)∧w.cell? ⟨g,i*2+1,none⟩=some (.float .f64 p.2):=by
 have hlt:i<l.length:=(List.getElem?_eq_some_iff.1 hp).1;rcases h.1.2 with⟨_,h0⟩|⟨g,cap,cur,rfl,_,hh,_,_,hsz,htk⟩
 ·omega
 ·refine⟨g,cap,rfl,h.2 g (by simp[Value.ownBlock]), ?_, ?_⟩
  ·have h1:=Gt (q:=0) hp (by omega);rw[←htk,List.getElem?_take_of_lt (by omega)]at h1;unfold World.cell?;rw[hh];simpa[wC]using h1
  ·have h1:=Gt (q:=1) hp (by omega);rw[←htk,List.getElem?_take_of_lt (by omega)]at h1;unfold World.cell?;rw[hh];simpa[wC]using h1
end
structure TAct where
 kind:Int
 key:Nat
 f:Nat
def TAct.cells (a:TAct):List Value:=[.int .i64 a.kind,nU a.key,.float .f64 a.f]
theorem acts_length (l:List TAct):(l.flatMap TAct.cells).length=l.length*3:=by
 induction l with
 |nil=>rfl
 |cons x l ih=>simp only[List.flatMap_cons,List.length_append,List.length_cons,ih];simp[TAct.cells];omega
theorem acts_at (l:List TAct):∀(i:Nat) (a:TAct),l[i]?=some a→∀j,j<3→(l.flatMap TAct.cells)[i*3+j]?=a.cells[j]?:=by
 induction l with
 |nil=>intro i a h;simp at h
 |cons x l ih=>
  intro i a h j hj;rw[List.flatMap_cons]
  cases i with
  |zero=>
   simp at h;subst h;rw[List.getElem?_append_left (by simp[TAct.cells];omega),Nat.zero_mul,Nat.zero_add]
  |succ i=>
   rw[List.getElem?_append_right (by simp[TAct.cells];omega),show(i+1)*3+j-x.cells.length=i*3+j by simp[TAct.cells];omega];exact ih i a (by simpa using h) j hj
theorem cell_mod {w w':World}{S:List Nat}{g o:Nat}{v:Value}(hm:Mod S w w')(hg:g<w.heap.size)(hS:g∉S)(h:w.cell? ⟨g,o,none⟩=some v):w'.cell? ⟨g,o,none⟩=some v:=by
 rw[←h];unfold World.cell?;rw[hm.block g hg hS]
theorem law_keeps {W0:World}{E:Nat→Addr}{w:World}{A:Option Addr}{c:Nat}(acts:List TAct)(key f:Nat)(hE:Env W0 E w)(hMw:Ae w)(h6:dV E W0 6)(h11:dV E W0 11)(U0:dV E W0 13)(hA:Reads w w.heap.size 3 A acts.length (acts.flatMap TAct.cells))(hb:∀a∈acts,a.key<18446744073709551616∧a.f<18446744073709551616)(hk:key<18446744073709551616)(hf:f<18446744073709551616):
  Calls Tryz.prog 3 #[.slice A acts.length c,nU key,.float .f64 f] w fun y w'=>y= .returned (.bool true)∧Below w.heap.size w w':=by
 have PO:=qd (alive47 hE hMw h6);have mD:=qd (fun(V:World) (hV:Below w.heap.size w V)=>adH (W0:=W0) (E:=E) (w:=V) ⟨hE.below.trans (hV.mono hE.size),hE.Yh,hE.tz0⟩ 0 (by omega) (hMw.below hV) 1 100 1 (by decide) 1 100 1 (by omega) (by omega));have HAc:=qd hA;have HAb:=qd hb;have Yj:=qd (And.intro h6 (And.intro h11 U0));have HKf:=qd (And.intro hk hf);unfold jS at mD;clear hE hMw h6 h11 U0 hA hb hk hf;go_in;go_wp2_with fail;refine PO.out.mono ?_;rintro y w1 ⟨rfl,hb1⟩;have HB1:=qd hb1;clear hb1 PO;by_cases hlen:80<acts.length
 ·have hlen':(80:Int)<(acts.length:Int):=by omega
  go_wp2;go_ret;exact⟨rfl,HB1.out⟩
 have hlen':¬(80:Int)<(acts.length:Int):=by omega
 have HN1:=qd (mD.out w1 HB1.out);clear mD;go_wp2_with fail;refine HN1.out.mono ?_;rintro y w2 ⟨tb,b,G0,rfl,hA0,hq0,hb2⟩;have HA0:=qd hA0;have HQ0:=qd (show∀q∈G0,w.heap.size≤q from fun q hq=>Nat.le_trans HB1.out.size (hq0 q hq));have HB2:=qd (HB1.out.trans (hb2.mono HB1.out.size));have HR0:=qd (show wO (fun _=>none)from fun k v e=>by cases e);clear hA0 hq0 hb2 HN1 HB1;go_wp2;go_loopw [39] (fun v39 wr=>∃(i n gv:Nat) (R:Nat→Option Nat) (G:List Nat),i≤acts.length∧gv≤i∧v39=nI i∧Hid (wO R)∧Hid (fC W0 E 0 1 100 1 tb b G wr R n gv)∧Hid (∀q∈G,w.heap.size≤q)∧Hid (Below w.heap.size w wr)) (fun v39 _=>acts.length-(intOf v39).toNat)
 case atStart=>exact⟨0,0,0,_,G0,by omega,by omega,rfl,HR0,HA0,HQ0,HB2⟩
 case round=>
  clear HA0 HQ0 HB2 HR0;obtain⟨i,n,gv,R,G,hi,hgv,rfl,HR,HA,HQ,HB⟩:=hrel;by_cases hlt:i<acts.length
  ·have hlt':(i:Int)<(acts.length:Int):=by omega
   have hi0:(0:Int)≤(i:Int):=by omega
   have hwi:IntKind.i64.wrap ((i:Int)+1)=((i+1:Nat):Int):=by rw[IntKind.wrap_i64];omega
   obtain⟨a,ha⟩:∃a,acts[i]?=some a:=⟨_,List.getElem?_eq_getElem hlt⟩;obtain⟨g,off,hAg,hgl,hc⟩:=HAc.out.2 (by omega);have r0:wr.cell? ⟨g,off+i*3,none⟩=some (.int .i64 a.kind):=aD HB.out (hc (i*3+0) _ (acts_at acts i a ha 0 (by omega)));have r1:wr.cell? ⟨g,off+i*3+1,none⟩=some (nU a.key):=aD HB.out (hc (i*3+1) _ (acts_at acts i a ha 1 (by omega)));have r2:wr.cell? ⟨g,off+i*3+2,none⟩=some (.float .f64 a.f):=aD HB.out (hc (i*3+2) _ (acts_at acts i a ha 2 (by omega)));have HAa:=qd (HAb.out a (List.mem_of_getElem? ha));subst hAg;clear hc ha;have adB:=fun(q:Addr) m (V:World)=>run_store Tryz.prog V q (.float .f64 a.f) m rfl;go_upto_region 11 with fail;clear adB;refine dA (F:=fun v=>aj v wr.heap.size 34 #[.int .i64 a.kind,nU a.key,.float .f64 a.f]∧Below wr.heap.size wr v) ⟨aj.new wr 34 #[.int .i64 a.kind,nU a.key,.float .f64 a.f],(Below.refl wr.heap.size wr).alloc (Nat.le_refl _) _⟩ ?_;rintro w6 ⟨nk,hb6⟩;obtain⟨bx,hbx⟩:∃bx,bx=wr.heap.size:=⟨_,rfl⟩;rw[←hbx]at nk⊢;obtain⟨x0,x1,x2⟩:=nk.c3;have HA6:=qd (HA.out.below hb6);have AB:=qd (HB.out.trans (hb6.mono HB.out.size));have HM:=qd (show acts.length-(i+1)<acts.length-i by omega)
   have hgv1:gv+1≤i+1:=by omega
   have hg100:gv≤100000:=by omega
   clear nk hb6 hbx r0 r1 r2 HA HB;by_cases hkd:a.kind=0
   ·have HAdd:=qd (ty_Add_any HA6.out (by omega) HR.out Yj.out.2.2 Yj.out.2.1 a.key a.f HAa.out.1 HAa.out.2);go_wp2_with fail;refine HAdd.out.mono ?_;rintro y w7 ⟨u,v,rfl,R',n',hI,hto⟩;obtain⟨G',hA7,hq7,FE⟩:=TyIn.of HQ.out AB.out hto;have HI:=qd hI;have HA7:=qd hA7;have HQ7:=qd hq7;have HB7:=qd FE;clear hI hto hA7 hq7 FE HAdd HA6 HQ HR AB;go_wp2;go_roundw
    case measure=>simp[intOf];exact HM.out
    exact⟨i+1,n',gv,R',G',by omega,by omega,rfl,HI,HA7,HQ7,HB7⟩
   ·have HSc:=qd (ady HA6.out (by omega) HR.out (by omega) hg100 Yj.out.1 Yj.out.2.2 Yj.out.2.1 a.f HAa.out.2);go_wp2_with fail;refine HSc.out.mono ?_;rintro y w7 ⟨u,v,rfl,R',n',oV,hI,hgle,hto⟩;obtain⟨G',hA7,hq7,FE⟩:=TyIn.of HQ.out AB.out hto;have HI:=qd hI;have HA7:=qd hA7;have HQ7:=qd hq7;have HB7:=qd FE
    have hgl':oV≤i+1:=by omega
    clear hI hto hA7 hq7 FE HSc HA6 HQ HR AB;go_wp2;go_roundw
    case measure=>simp[intOf];exact HM.out
    exact⟨i+1,n',oV,R',G',by omega,hgl',rfl,HI,HA7,HQ7,HB7⟩
  ·obtain rfl:i=acts.length:=by omega
   have hlt':¬(acts.length:Int)<(acts.length:Int):=by omega
   have HAll:=qd (U3 HA.out (by omega) (by omega) Yj.out.1 (fun k v e=>Nat.lt_trans (HR.out k v e).2.2 (by decide)));go_wp2_with fail;refine HAll.out.mono ?_;rintro y w3 ⟨vl,l,G1,rfl,hP⟩;obtain rfl:=hP.len;obtain⟨A5,c5,hv5⟩:=bE hP.row;subst hv5;have adA:=qd (show∀p∈l,p.1<18446744073709551616∧0<p.2∧p.2<9218868437227405312 from fun p hp=>HR.out p.1 p.2 (by rw[←hP.get];exact(jU hP.qH).2 hp));have HGet:=qd (And.intro hP.qH hP.get);obtain⟨G1x,hA1,hq1,hb1⟩:=TyIn.made hP.at_ hP.sub hP.mod HQ.out HB.out;have HA1:=qd hP.at_;have HQ1:=qd (show∀q∈G1,w.heap.size≤q from fun q hq=>(hP.sub q hq).elim (HQ.out q) (fun k=>Nat.le_trans HB.out.size k));have HB1:=qd hb1;have HRow1:=qd (show RowW w3 G1 (.slice A5 l.length c5) l from⟨Ad hP.row (Nat.zero_le _),hP.apart⟩);have qo:=qd (hP.at_)
   have hl100:l.length≤100:=by
    obtain⟨F,_,hM,_⟩:=hP.at_;exact hM.least.1
   clear hP hA1 hq1 hb1 HAll HA HQ HB qo G1x;have HTop:=qd (adI HA1.out (by omega) (by omega) Yj.out.1 (fun k v e=>(HR.out k v e).2.2) (l.length:Int) l.length (by omega));go_wp2_with fail;refine HTop.out.mono ?_;rintro y w4 ⟨vt,l1,lt,G2,rfl,hP⟩;obtain rfl:l1=l:=ascW_same hP.qH HGet.out.1 (fun k=>by rw[hP.get,HGet.out.2]);obtain⟨A6,c6,hv6⟩:=bE hP.row;subst hv6;have hltl:lt.length=l1.length:=hP.perm.length_eq;have HSort:=qd (And.intro hP.perm hP.sorted)
   have HRowT:=qd (show RowW w4 G2 (.slice A6 l1.length c6) lt from⟨by
    have h:=Ad hP.row (Nat.zero_le _);rw[List.take_of_length_le (Nat.le_of_eq hltl)]at h;rw[hltl]
    exact h,hP.apart⟩)
   have HRow2:=qd (HRow1.out.to hP.sub hP.mod);have HA2:=qd hP.at_;have HQ2:=qd (show∀q∈G2,w.heap.size≤q from fun q hq=>(hP.sub q hq).elim (HQ1.out q) (fun k=>Nat.le_trans HB1.out.size k));have HB2:=qd (HB1.out.trans (hP.mod.below HQ1.out HB1.out.size));clear hP HTop HA1 HQ1 HB1 HRow1;have HT0:=qd (adI HA2.out (by omega) (by omega) Yj.out.1 (fun k v e=>(HR.out k v e).2.2) (-1) 0 (by omega));go_wp2_with fail;refine HT0.out.mono ?_;rintro y w5 ⟨v0,l2,lt2,G3,rfl,hP⟩;obtain⟨A7,c7,hv7⟩:=bE hP.row;subst hv7;have HRowT3:=qd (HRowT.out.to hP.sub hP.mod);have HRow3:=qd (HRow2.out.to hP.sub hP.mod);have HA3:=qd hP.at_;have HQ3:=qd (show∀q∈G3,w.heap.size≤q from fun q hq=>(hP.sub q hq).elim (HQ2.out q) (fun k=>Nat.le_trans HB2.out.size k));have HB3:=qd (HB2.out.trans (hP.mod.below HQ2.out HB2.out.size));clear hP HT0 HA2 HQ2 HB2 HRow2 HRowT;go_wp2;go_loopw [82] (fun v82 wr=>∃(i:Nat) (G:List Nat),i≤l1.length∧v82=nI i∧Hid (fC W0 E 0 1 100 1 tb b G wr R l1.length (gv+1+1+1))∧Hid (∀q∈G,w.heap.size≤q)∧Hid (Below w.heap.size w wr)∧Hid (RowW wr G (.slice A5 l1.length c5) l1)∧Hid (RowW wr G (.slice A6 l1.length c6) lt)) (fun v82 _=>l1.length-(intOf v82).toNat)
   case atStart=>exact⟨0,G3,by omega,rfl,HA3,HQ3,HB3,HRow3,HRowT3⟩
   case round=>
    clear HA3 HQ3 HB3 HRow3 HRowT3;obtain⟨i,G,hi,rfl,HA,HQ,HB,HRw,HRt⟩:=hrel;by_cases hlt:i<l1.length
    ·have hlt':(i:Int)<(l1.length:Int):=by omega
     have hi0:(0:Int)≤(i:Int):=by omega
     have hwi:IntKind.i64.wrap ((i:Int)+1)=((i+1:Nat):Int):=by rw[IntKind.wrap_i64];omega
     obtain⟨p,hp⟩:∃p,l1[i]?=some p:=⟨_,List.getElem?_eq_getElem hlt⟩;obtain⟨g5,cx,he,hg5,r0,r1⟩:=HRw.out.cell hp
     obtain⟨rfl,hcx⟩:A5=some ⟨g5,0,none⟩∧c5=cx:=by injection he with e1 e2 e3;exact⟨e1,e3⟩
     clear he hcx cx;have hpl:=adA.out p (List.mem_of_getElem? hp)
     have hgt:(FloatKind.f64.format.order p.2 0==some .gt)=true:=by
      rw[UW (vB hpl.2.2) (by decide:dX 0=false),CW hpl.2.2,show lH.key 0=0 by decide];exact decide_eq_true (by omega)
     have hne:(FloatKind.f64.format.order p.2 p.2 !=some .eq)=false:=by rw[Nv,vB hpl.2.2]
     have hinf0:pI p.2=false:=by unfold pI rung;exact decide_eq_false (by omega)
     have HInf:=qd (fun(V:World)=>show Calls Tryz.prog 10 #[.float .f64 p.2,.int .i64 0] V (fun e w'=>e= .returned (.bool false)∧V=w')from hinf0▸DX p.2 (by omega) V)
     have hRp:(R p.1).getD 0=p.2:=by rw[←HGet.out.2,(jU HGet.out.1).2 (List.mem_of_getElem? hp)];rfl
     have adB:=fun(q:Addr) m (V:World)=>run_store Tryz.prog V q (.float .f64 p.2) m rfl;have HP:=qd hp;have iW:=qd hpl;clear hp hpl hinf0;go_upto_region 22 with fail;clear adB;refine dA (F:=fun v=>aj v wr.heap.size 43 #[nU p.1,.float .f64 p.2]∧Below wr.heap.size wr v) ⟨aj.new wr 43 #[nU p.1,.float .f64 p.2],(Below.refl wr.heap.size wr).alloc (Nat.le_refl _) _⟩ ?_;rintro w6 ⟨nk,hb6⟩;have hbxG:wr.heap.size∉G:=fun hq=>absurd (HA.out.fA _ hq).1 (Nat.lt_irrefl _);have ae8:=nk.lt;obtain⟨bx,hbx⟩:∃bx,bx=wr.heap.size:=⟨_,rfl⟩;rw[←hbx]at nk hbxG ae8⊢;obtain⟨x0,x1⟩:=nk.c2;have mF:=qd (And.intro ae8 hbxG);have HA6:=HA.out.below hb6
     have HGt:=qd (show Calls Tryz.prog 11 #[pQ tb,nU p.1] w6.drew (fun e w'=>e= .returned (.float .f64 p.2)∧iC W0 E 0 1 100 1 tb b G w6.drew w' R l1.length (gv+1+1+1))from by
      have h:=Gr (HA6.below (Below.refl w6.heap.size w6).drew) (by omega) p.1 iW.out.1;rw[hRp]at h
      exact h)
     have HQ6:=qd (And.intro HQ.out (HB.out.trans (hb6.mono HB.out.size)));have HRw6:=qd (HRw.out.below hb6);have HRt6:=qd (HRt.out.below hb6);have HG5:=qd (And.intro (Nat.lt_of_lt_of_le (World.block_lt_of_cell? wr _ r0) hb6.size) hg5);have HM:=qd (show l1.length-(i+1)<l1.length-i by omega);clear nk hbx hbxG ae8 HA6 HA HQ HB HRw HRt hRp;by_cases hi1:i=0
     focus
      have hi1':¬(0:Int)<(i:Int):=by omega
      have hi1n:¬0<i:=by omega
      clear hb6 r0 r1 hi1;refine rT (fun(w':World)=>w'.cell? ⟨bx,0,none⟩=some (nU p.1)∧w'.cell? ⟨bx,1,none⟩=some (.float .f64 p.2)) [] ?_;have hHeld:=(⟨x0,x1⟩:_∧_);refine vW 0 rfl ?_;refine vT 1 rfl ?_;refine tW 2 (some 89) (.bool true) rfl hHeld ?_
      try simp only[pt]
      refine tW 3 (some 90) (.bool false) rfl hHeld ?_
      try simp only[pt]
      refine tW 4 (some 91) (.bool false) rfl hHeld ?_
      try simp only[pt]
      refine vW 5 rfl ?_;refine vT 6 rfl ?_;refine nT 7 rfl fun K hK=> ?_;rw[if_pos (by kernel_rfl)];go_wp2_with fail;refine(HInf.out _).mono ?_;rintro y wq ⟨rfl,rfl⟩;go_wp2_with fail;refine kO hK ?_;clear hK K;refine tW 8 (some 95) (.bool false) rfl hHeld ?_
      try simp only[pt]
      refine tW 9 (some 96) (.bool false) rfl hHeld ?_
      try simp only[pt]
      refine vW 10 rfl ?_;refine tW 11 (some 98) (.bool false) rfl hHeld ?_
      try simp only[pt]
      refine tW 12 (some 99) (.bool false) rfl hHeld ?_
      try simp only[pt]
      refine vU 13 rfl ?_;refine vU 14 rfl ?_;refine vU 15 rfl ?_;refine vU 16 rfl ?_;refine vU 17 rfl ?_;refine vU 18 rfl ?_;refine vU 19 rfl ?_;refine vU 20 rfl ?_;refine vU 21 rfl ?_;refine tW 22 (some 109) (.bool false) rfl hHeld ?_
      try simp only[pt]
      refine tW 23 (some 110) (.bool false) rfl hHeld ?_
      try simp only[pt]
      refine tW 24 (some 111) (.bool false) rfl hHeld ?_
      try simp only[pt]
      refine vW 25 rfl ?_;refine vW 26 rfl ?_;refine vT 27 rfl ?_;refine vW 29 rfl ?_;refine vT 30 rfl ?_;refine nT 28 rfl fun K hK=> ?_;rw[if_pos (by kernel_rfl)];go_wp2_with fail;refine HGt.out.mono ?_;rintro y w7 ⟨rfl,G',a1,a2,a3⟩;have HA7:=qd a1;have Lb:=qd (And.intro a2 a3);replace x0:=(cell_mod a3 mF.out.1 mF.out.2 x0);replace x1:=(cell_mod a3 mF.out.1 mF.out.2 x1);clear a1 a2 a3;go_wp2_with fail;have hHeld:=(⟨x0,x1⟩:_∧_);refine kO hK ?_;clear hK K;refine tW 31 (some 118) (.bool false) rfl hHeld ?_
      try simp only[pt]
      refine tW 32 (some 119) (.bool false) rfl hHeld ?_
      try simp only[pt]
      refine aQ (by kernel_rfl) ?_ _;have HRw7:=qd ((HRw6.out.below (Below.refl w6.heap.size w6).drew).to Lb.out.1 Lb.out.2);have HRt7:=qd ((HRt6.out.below (Below.refl w6.heap.size w6).drew).to Lb.out.1 Lb.out.2)
      have HQ7:=qd (show(∀q∈G',w.heap.size≤q)∧Below w.heap.size w w7 from by
       have hb6:=HQ6.out.2
       exact⟨fun q hq=>(Lb.out.1 q hq).elim (HQ6.out.1 q) (fun k=>Nat.le_trans hb6.size k),(hb6.trans ((Below.refl w6.heap.size w6).drew.mono hb6.size)).trans (Lb.out.2.below HQ6.out.1 hb6.size)⟩)
      clear Lb HRw6 HRt6 HQ6 mF HG5 HGt x0 x1;go_upto_region 24 with fail;refine rT (fun(_:World)=>True) [] ?_;have hHeld:(fun(_:World)=>True) (World.drew w7):=trivial;refine vW 0 rfl ?_;refine tW 1 (some 121) (.bool false) rfl hHeld ?_
      try simp only[pt]
      refine tW 2 (some 122) (.bool false) rfl hHeld ?_
      try simp only[pt]
      refine vU 3 rfl ?_;refine vU 4 rfl ?_;refine vU 5 rfl ?_;refine vU 6 rfl ?_;refine vU 7 rfl ?_;refine vU 8 rfl ?_;refine vU 9 rfl ?_;refine vU 10 rfl ?_;refine vU 11 rfl ?_;refine vU 12 rfl ?_;refine vU 13 rfl ?_;refine vU 14 rfl ?_;refine vU 15 rfl ?_;refine vU 16 rfl ?_;refine vU 17 rfl ?_;refine vU 18 rfl ?_;refine vU 19 rfl ?_;refine vU 20 rfl ?_;refine vU 21 rfl ?_;refine vU 22 rfl ?_;refine vU 23 rfl ?_;refine vU 24 rfl ?_;refine vU 25 rfl ?_;refine vU 26 rfl ?_;refine vU 27 rfl ?_;refine vU 28 rfl ?_;refine vU 29 rfl ?_;refine vU 30 rfl ?_;refine vU 31 rfl ?_;refine vU 32 rfl ?_;refine vU 33 rfl ?_;refine vU 34 rfl ?_;refine vU 35 rfl ?_;refine vU 36 rfl ?_;refine vU 37 rfl ?_;refine vU 38 rfl ?_;refine vU 39 rfl ?_;refine vU 40 rfl ?_;refine vU 41 rfl ?_;refine vU 42 rfl ?_
     rotate_left
     focus
      obtain⟨j,hj⟩:∃j,i=j+1:=⟨i-1,by omega⟩
      have hj1:(0:Int)<(i:Int):=by omega
      have hj1n:0<i:=by omega
      have hwj:IntKind.i64.wrap ((i:Int)-1)=(j:Int):=by rw[IntKind.wrap_i64];omega
      have hj0:(0:Int)≤(j:Int):=by omega
      have hjl:(j:Int)<(l1.length:Int):=by omega
      obtain⟨p',hp'⟩:∃p',l1[j]?=some p':=⟨_,List.getElem?_eq_getElem (by omega)⟩;have hasc:p'.1<p.1:=zk HGet.out.1 (by omega) hp' HP.out
      have hge:¬(p.1:Int)≤(p'.1:Int):=by omega
      have aeH:(p'.1:Int)<(p.1:Int):=by omega
      obtain⟨gx,cx,he,_,y0,_⟩:=HRw6.out.cell hp'
      obtain rfl:g5=gx:=by injection he with e1 e2 e3;injection e1 with e1;injection e1
      have HJ:=qd hj;clear he hb6 r0 r1 hj;refine rT (fun(w':World)=>(w'.cell? ⟨bx,0,none⟩=some (nU p.1)∧w'.cell? ⟨bx,1,none⟩=some (.float .f64 p.2))∧w'.cell? ⟨g5,j*2,none⟩=some (nU p'.1)) [] ?_;have hHeld:(fun(w':World)=>(w'.cell? ⟨bx,0,none⟩=some (nU p.1)∧w'.cell? ⟨bx,1,none⟩=some (.float .f64 p.2))∧w'.cell? ⟨g5,j*2,none⟩=some (nU p'.1)) (World.drew w6):=⟨⟨x0,x1⟩,y0⟩;refine vW 0 rfl ?_;refine vT 1 rfl ?_;refine tW 2 (some 89) (.bool true) rfl hHeld ?_
      try simp only[pt]
      refine tW 3 (some 90) (.bool false) rfl hHeld ?_
      try simp only[pt]
      refine tW 4 (some 91) (.bool false) rfl hHeld ?_
      try simp only[pt]
      refine vW 5 rfl ?_;refine vT 6 rfl ?_;refine nT 7 rfl fun K hK=> ?_;rw[if_pos (by kernel_rfl)];go_wp2_with fail;refine(HInf.out _).mono ?_;rintro y wq ⟨rfl,rfl⟩;go_wp2_with fail;refine kO hK ?_;clear hK K;refine tW 8 (some 95) (.bool false) rfl hHeld ?_
      try simp only[pt]
      refine tW 9 (some 96) (.bool false) rfl hHeld ?_
      try simp only[pt]
      refine vW 10 rfl ?_;refine tW 11 (some 98) (.bool true) rfl hHeld ?_
      try simp only[pt]
      refine tW 12 (some 99) (.bool true) rfl hHeld ?_
      try simp only[pt]
      refine vW 13 rfl ?_;refine vW 14 rfl ?_;refine vW 15 rfl ?_;refine vW 16 rfl ?_;refine vW 17 rfl ?_;refine vT 18 rfl ?_;refine vW 19 rfl ?_;refine vT 20 rfl ?_;refine tW 21 (some 108) (.bool false) rfl hHeld ?_
      try simp only[pt]
      refine tW 22 (some 109) (.bool false) rfl hHeld ?_
      try simp only[pt]
      refine tW 23 (some 110) (.bool false) rfl hHeld ?_
      try simp only[pt]
      refine tW 24 (some 111) (.bool false) rfl hHeld ?_
      try simp only[pt]
      refine vW 25 rfl ?_;refine vW 26 rfl ?_;refine vT 27 rfl ?_;refine vW 29 rfl ?_;refine vT 30 rfl ?_;refine nT 28 rfl fun K hK=> ?_;rw[if_pos (by kernel_rfl)];go_wp2_with fail;refine HGt.out.mono ?_;rintro y w7 ⟨rfl,G',a1,a2,a3⟩;have HA7:=qd a1;have Lb:=qd (And.intro a2 a3);replace x0:=(cell_mod a3 mF.out.1 mF.out.2 x0);replace x1:=(cell_mod a3 mF.out.1 mF.out.2 x1);replace y0:=(cell_mod a3 HG5.out.1 HG5.out.2 y0);clear a1 a2 a3;go_wp2_with fail;have hHeld:=show(fun(w':World)=>(w'.cell? ⟨bx,0,none⟩=some (nU p.1)∧w'.cell? ⟨bx,1,none⟩=some (.float .f64 p.2))∧w'.cell? ⟨g5,j*2,none⟩=some (nU p'.1)) _ from⟨⟨x0,x1⟩,y0⟩;refine kO hK ?_;clear hK K;refine tW 31 (some 118) (.bool false) rfl hHeld ?_
      try simp only[pt]
      refine tW 32 (some 119) (.bool false) rfl hHeld ?_
      try simp only[pt]
      refine aQ (by kernel_rfl) ?_ _;have HRw7:=qd ((HRw6.out.below (Below.refl w6.heap.size w6).drew).to Lb.out.1 Lb.out.2);have HRt7:=qd ((HRt6.out.below (Below.refl w6.heap.size w6).drew).to Lb.out.1 Lb.out.2)
      have HQ7:=qd (show(∀q∈G',w.heap.size≤q)∧Below w.heap.size w w7 from by
       have hb6:=HQ6.out.2
       exact⟨fun q hq=>(Lb.out.1 q hq).elim (HQ6.out.1 q) (fun k=>Nat.le_trans hb6.size k),(hb6.trans ((Below.refl w6.heap.size w6).drew.mono hb6.size)).trans (Lb.out.2.below HQ6.out.1 hb6.size)⟩)
      clear Lb HRw6 HRt6 HQ6 mF HG5 HGt x0 x1;obtain⟨q,hq⟩:∃q,lt[i]?=some q:=⟨_,List.getElem?_eq_getElem (by rw[hltl];exact hlt)⟩;obtain⟨q',hq'⟩:∃q,lt[j]?=some q:=⟨_,List.getElem?_eq_getElem (by rw[hltl];have:=HJ.out;omega)⟩;obtain⟨g6,c6x,he,_,z0,z1⟩:=HRt7.out.cell hq'
      obtain⟨rfl,hcx⟩:A6=some ⟨g6,0,none⟩∧c6=c6x:=by injection he with e1 e2 e3;exact⟨e1,e3⟩
      obtain⟨g6x,c6y,he2,_,z2,z3⟩:=HRt7.out.cell hq
      obtain rfl:g6=g6x:=by injection he2 with e1 e2 e3;injection e1 with e1;injection e1
      have hl1:=adA.out q (HSort.out.1.mem_iff.1 (List.mem_of_getElem? hq));have hl2:=adA.out q' (HSort.out.1.mem_iff.1 (List.mem_of_getElem? hq'))
      have hgew:GeW q' q:=by
       have h:=List.pairwise_iff_getElem.1 HSort.out.2 j i (by rw[hltl];have:=HJ.out;omega) (by rw[hltl];exact hlt) (by have:=HJ.out;omega);rw[List.getElem?_eq_getElem (by rw[hltl];exact hlt)]at hq;rw[List.getElem?_eq_getElem (by rw[hltl];have:=HJ.out;omega)]at hq';rw[Option.some.inj hq,Option.some.inj hq']at h;exact h
      have hkne:q'.1≠q.1:=by
       have hnd:(lt.map Prod.fst).Nodup:=by
        rw[(HSort.out.1.map Prod.fst).nodup_iff];unfold List.Nodup;rw[List.pairwise_map]
        exact HGet.out.1.imp fun h=>by omega
       intro h
       have h1:(lt.map Prod.fst)[i]?=some q.1:=by rw[List.getElem?_map,hq];rfl
       have h2:(lt.map Prod.fst)[j]?=some q.1:=by rw[List.getElem?_map,hq',←h];rfl
       have h3:=(List.getElem?_inj (by rw[List.length_map,hltl];exact hlt) hnd).1 (h1.trans h2.symm);have:=HJ.out;omega
      have hlo:(FloatKind.f64.format.order q'.2 q.2==some .lt)=false:=by
       rw[UY (vB hl2.2.2) (vB hl1.2.2),CW hl2.2.2,CW hl1.2.2];have:=hgew.1;exact decide_eq_false (by omega)
      have heo:(FloatKind.f64.format.order q'.2 q.2==some .eq)=decide (q'.2=q.2):=by
       rw[abP (vB hl2.2.2) (vB hl1.2.2),CW hl2.2.2,CW hl1.2.2];by_cases h:q'.2=q.2
       ·rw[decide_eq_true h];exact decide_eq_true (by omega)
       ·rw[decide_eq_false h];exact decide_eq_false (by omega)
      have hill:(i:Int)<(l1.length:Int):=hlt';go_upto_region 24 with fail;by_cases hww:q'.2=q.2
      focus
       rw[decide_eq_true hww]at heo
       have hkl:q'.1<q.1:=by have:=hgew.2 hww;omega
       have hkl':(q'.1:Int)<(q.1:Int):=by omega
       clear hww hgew hkne hl1 hl2 hq hq' he he2 hcx;refine rT (fun(w':World)=>(w'.cell? ⟨g6,j*2,none⟩=some (nU q'.1)∧w'.cell? ⟨g6,j*2+1,none⟩=some (.float .f64 q'.2))∧w'.cell? ⟨g6,i*2,none⟩=some (nU q.1)∧w'.cell? ⟨g6,i*2+1,none⟩=some (.float .f64 q.2)) [] ?_;have hHeld:(fun(w':World)=>(w'.cell? ⟨g6,j*2,none⟩=some (nU q'.1)∧w'.cell? ⟨g6,j*2+1,none⟩=some (.float .f64 q'.2))∧w'.cell? ⟨g6,i*2,none⟩=some (nU q.1)∧w'.cell? ⟨g6,i*2+1,none⟩=some (.float .f64 q.2)) (World.drew w7):=⟨⟨z0,z1⟩,z2,z3⟩;refine vW 0 rfl ?_;refine tW 1 (some 121) (.bool true) rfl hHeld ?_
       try simp only[pt]
       refine tW 2 (some 122) (.bool true) rfl hHeld ?_
       try simp only[pt]
       refine vW 3 rfl ?_;refine vW 4 rfl ?_;refine vW 5 rfl ?_;refine vW 6 rfl ?_;refine vW 7 rfl ?_;refine vT 8 rfl ?_;refine vW 9 rfl ?_;refine vW 10 rfl ?_;refine vW 11 rfl ?_;refine vW 12 rfl ?_;refine vT 13 rfl ?_;refine tW 14 (some 134) (.bool false) rfl hHeld ?_
       try simp only[pt]
       refine tW 15 (some 135) (.bool false) rfl hHeld ?_
       try simp only[pt]
       refine vW 16 rfl ?_;refine vW 17 rfl ?_;refine vW 18 rfl ?_;refine vW 19 rfl ?_;refine vW 20 rfl ?_;refine vT 21 rfl ?_;refine vW 22 rfl ?_;refine vW 23 rfl ?_;refine vW 24 rfl ?_;refine vW 25 rfl ?_;refine vT 26 rfl ?_;refine tW 27 (some 147) (.bool true) rfl hHeld ?_
       try simp only[pt]
       refine tW 28 (some 148) (.bool true) rfl hHeld ?_
       try simp only[pt]
       refine vW 29 rfl ?_;refine vW 30 rfl ?_;refine vW 31 rfl ?_;refine vW 32 rfl ?_;refine vW 33 rfl ?_;refine vT 34 rfl ?_;refine vW 35 rfl ?_;refine vW 36 rfl ?_;refine vW 37 rfl ?_;refine vW 38 rfl ?_;refine vT 39 rfl ?_;refine tW 40 (some 160) (.bool false) rfl hHeld ?_
       try simp only[pt]
      rotate_left
      focus
       rw[decide_eq_false hww]at heo;clear hww hgew hkne hl1 hl2 hq hq' he he2 hcx;refine rT (fun(w':World)=>(w'.cell? ⟨g6,j*2,none⟩=some (nU q'.1)∧w'.cell? ⟨g6,j*2+1,none⟩=some (.float .f64 q'.2))∧w'.cell? ⟨g6,i*2,none⟩=some (nU q.1)∧w'.cell? ⟨g6,i*2+1,none⟩=some (.float .f64 q.2)) [] ?_;have hHeld:(fun(w':World)=>(w'.cell? ⟨g6,j*2,none⟩=some (nU q'.1)∧w'.cell? ⟨g6,j*2+1,none⟩=some (.float .f64 q'.2))∧w'.cell? ⟨g6,i*2,none⟩=some (nU q.1)∧w'.cell? ⟨g6,i*2+1,none⟩=some (.float .f64 q.2)) (World.drew w7):=⟨⟨z0,z1⟩,z2,z3⟩;refine vW 0 rfl ?_;refine tW 1 (some 121) (.bool true) rfl hHeld ?_
       try simp only[pt]
       refine tW 2 (some 122) (.bool true) rfl hHeld ?_
       try simp only[pt]
       refine vW 3 rfl ?_;refine vW 4 rfl ?_;refine vW 5 rfl ?_;refine vW 6 rfl ?_;refine vW 7 rfl ?_;refine vT 8 rfl ?_;refine vW 9 rfl ?_;refine vW 10 rfl ?_;refine vW 11 rfl ?_;refine vW 12 rfl ?_;refine vT 13 rfl ?_;refine tW 14 (some 134) (.bool false) rfl hHeld ?_
       try simp only[pt]
       refine tW 15 (some 135) (.bool false) rfl hHeld ?_
       try simp only[pt]
       refine vW 16 rfl ?_;refine vW 17 rfl ?_;refine vW 18 rfl ?_;refine vW 19 rfl ?_;refine vW 20 rfl ?_;refine vT 21 rfl ?_;refine vW 22 rfl ?_;refine vW 23 rfl ?_;refine vW 24 rfl ?_;refine vW 25 rfl ?_;refine vT 26 rfl ?_;refine tW 27 (some 147) (.bool false) rfl hHeld ?_
       try simp only[pt]
       refine tW 28 (some 148) (.bool false) rfl hHeld ?_
       try simp only[pt]
       refine vU 29 rfl ?_;refine vU 30 rfl ?_;refine vU 31 rfl ?_;refine vU 32 rfl ?_;refine vU 33 rfl ?_;refine vU 34 rfl ?_;refine vU 35 rfl ?_;refine vU 36 rfl ?_;refine vU 37 rfl ?_;refine vU 38 rfl ?_;refine vU 39 rfl ?_;refine vU 40 rfl ?_
      all_goals
       refine tW 41 (some 161) (.bool false) rfl hHeld ?_
       try simp only[pt]
       refine tW 42 (some 162) (.bool false) rfl hHeld ?_
       try simp only[pt]
     all_goals
      refine tW 43 (some 163) (.bool false) rfl hHeld ?_
      try simp only[pt]
      refine aQ (by kernel_rfl) ?_ _;go_wp2;go_roundw
      case measure=>simp[intOf];exact HM.out
      exact⟨i+1,G',by omega,rfl,qd (HA7.out.below (Below.refl w7.heap.size w7).drew),qd HQ7.out.1,qd (HQ7.out.2.trans ((Below.refl w7.heap.size w7).drew.mono HQ7.out.2.size)),qd (HRw7.out.below (Below.refl w7.heap.size w7).drew),qd (HRt7.out.below (Below.refl w7.heap.size w7).drew)⟩
    ·obtain rfl:i=l1.length:=by omega
     have hlt':¬(l1.length:Int)<(l1.length:Int):=by omega
     clear HRt HSort
     have hgv80:gv≤80:=by omega
     cases hRk:R key with
     |some v=>
      have HGk:=qd (show Calls Tryz.prog 11 #[pQ tb,nU key] wr (fun e w'=>e= .returned (.float .f64 v)∧iC W0 E 0 1 100 1 tb b G wr w' R l1.length (gv+1+1+1))from by
       have h:=Gr HA.out (by omega) key HKf.out.1;rw[hRk]at h
       exact h)
      have hv:=HR.out key v hRk
      have hne:(FloatKind.f64.format.order v 0 !=some .eq)=true:=by
       have h:=abP (vB hv.2.2) (by decide:dX 0=false);rw[CW hv.2.2,show lH.key 0=0 by decide]at h;rw[bne,h,decide_eq_false (show¬(v:Int)=0 by omega)];rfl
      clear hRk hv;go_wp2_with fail;refine HGk.out.mono ?_;rintro y w7 ⟨rfl,hto⟩;obtain⟨G7,hA7,hq7,FE⟩:=TyIn.of HQ.out HB.out hto;have HB7:=qd FE;clear hto hA7 hq7 FE HA HQ HB HRw HGk;go_wp2;go_ret;exact⟨rfl,HB7.out⟩
     |none=>
      have HGk:=qd (show Calls Tryz.prog 11 #[pQ tb,nU key] wr (fun e w'=>e= .returned (.float .f64 0)∧iC W0 E 0 1 100 1 tb b G wr w' R l1.length (gv+1+1+1))from by
       have h:=Gr HA.out (by omega) key HKf.out.1;rw[hRk]at h
       exact h)
      have HRk:=qd hRk
      have hne00:(FloatKind.f64.format.order 0 0 !=some .eq)=false:=by decide
      have heq00:(FloatKind.f64.format.order 0 0==some .eq)=true:=by decide
      have hgt00:(FloatKind.f64.format.order 0 0==some .gt)=false:=by decide
      clear hRk;go_wp2_with fail;refine HGk.out.mono ?_;rintro y w7 ⟨rfl,G7,a1,a2,a3⟩;have HRw7:=qd (HRw.out.to a2 a3);have HA7:=qd a1;have HQ7:=qd (show∀q∈G7,w.heap.size≤q from fun q hq=>(a2 q hq).elim (HQ.out q) (fun k=>Nat.le_trans HB.out.size k));have HB7:=qd (HB.out.trans (a3.below HQ.out HB.out.size));clear a1 a2 a3 HA HQ HB HRw HGk
      cases hfin:gV f with
      |false=>
       have HAdd:=qd (show Calls Tryz.prog 6 #[pQ tb,nU key,.float .f64 f] w7 (fun y w'=>y= .returned (.tuple #[.float .f64 0,.iface 344 (.pointer (some (E 13)))])∧iC W0 E 0 1 100 1 tb b G7 w7 w' R l1.length (gv+1+1+1))from acw HA7.out Yj.out.2.2 key f HKf.out.2 hfin);have hfs:=JM f;rw[hfin]at hfs;have hns:=Nv f
       cases hnan:dX f with
       |true=>
        rw[hnan]at hns;clear hfs hfin hnan;go_wp2_with fail;refine HAdd.out.mono ?_;rintro y w8 ⟨rfl,hto⟩;obtain⟨G9,a1,a2,a3⟩:=hto;have HRw9:=qd (HRw7.out.to a2 a3);have HA9:=qd a1;have HQ9:=qd (show∀q∈G9,w.heap.size≤q from fun q hq=>(a2 q hq).elim (HQ7.out q) (fun k=>Nat.le_trans HB7.out.size k));have HB9:=qd (HB7.out.trans (a3.below HQ7.out HB7.out.size));clear a1 a2 a3 HA7 HQ7 HB7 HRw7 HAdd;go_wp2;go_ret;exact⟨rfl,HB9.out⟩
       |false=>
        rw[hnan]at hns hfs
        have hin:pI f=true:=by simpa using hfs
        have HInf:=qd (fun(V:World)=>show Calls Tryz.prog 10 #[.float .f64 f,.int .i64 0] V (fun e w'=>e= .returned (.bool true)∧V=w')from hin▸DX f HKf.out.2 V);clear hfs hfin hnan hin;go_wp2_with fail;refine HAdd.out.mono ?_;rintro y w8 ⟨rfl,hto⟩;obtain⟨G9,a1,a2,a3⟩:=hto;have HRw9:=qd (HRw7.out.to a2 a3);have HA9:=qd a1;have HQ9:=qd (show∀q∈G9,w.heap.size≤q from fun q hq=>(a2 q hq).elim (HQ7.out q) (fun k=>Nat.le_trans HB7.out.size k));have HB9:=qd (HB7.out.trans (a3.below HQ7.out HB7.out.size));clear a1 a2 a3 HA7 HQ7 HB7 HRw7 HAdd;go_wp2_with fail;refine(HInf.out _).mono ?_;rintro y wq ⟨rfl,rfl⟩;go_wp2;go_ret;exact⟨rfl,HB9.out⟩
      |true=>
       have hadd:=zero_add_w HKf.out.2 hfin
       obtain⟨r,hr⟩:∃r,r=if rung f=0 then 0 else f:=⟨_,rfl⟩
       rw[←hr]at hadd
       have hrf:gV r=true:=by rw[hr];split;decide;exact hfin
       have hR0:(R key).getD 0=0:=by rw[HRk.out];rfl
       cases hle:uI r with
       |true=>
        have HAdd:=qd (show Calls Tryz.prog 6 #[pQ tb,nU key,.float .f64 f] w7 (fun y w'=>y= .returned (.tuple #[.float .f64 0,.nilIface])∧iC W0 E 0 1 100 1 tb b G7 w7 w' R (Rp (R key) l1.length) (gv+1+1+1))from by
         have h:=acF HA7.out (by omega) key f r HKf.out.1 HKf.out.2 hfin (by rw[hR0];exact hadd) hrf hle;rw[del_none HRk.out]at h
         exact h)
        clear hfin hadd hr hrf hR0 hle;go_wp2_with fail;refine HAdd.out.mono ?_;rintro y w8x ⟨rfl,hto⟩;obtain⟨G9,a1,a2,a3⟩:=hto;have HRw9:=qd (HRw7.out.to a2 a3);have HA9:=qd a1;have HQ9:=qd (show∀q∈G9,w.heap.size≤q from fun q hq=>(a2 q hq).elim (HQ7.out q) (fun k=>Nat.le_trans HB7.out.size k));have HB9:=qd (HB7.out.trans (a3.below HQ7.out HB7.out.size));clear a1 a2 a3 HA7 HQ7 HB7 HRw7 HAdd;have HAll:=qd (U3 HA9.out (by omega) (by omega) Yj.out.1 (fun k v e=>Nat.lt_trans (HR.out k v e).2.2 (by decide)));go_wp2_with fail;refine HAll.out.mono ?_;rintro y w8 ⟨vk,lk,G8,rfl,hP⟩;have hlk:l1=lk:=(ascW_same hP.qH HGet.out.1 (fun k=>by rw[hP.get,HGet.out.2])).symm;subst hlk;obtain⟨A8,c8,hv8⟩:=bE hP.row;subst hv8;have HRk8:=qd (show RowW w8 G8 (.slice A8 l1.length c8) l1 from⟨Ad hP.row (Nat.zero_le _),hP.apart⟩);have HRw8:=qd (HRw9.out.to hP.sub hP.mod);have HQ8:=qd (show∀q∈G8,w.heap.size≤q from fun q hq=>(hP.sub q hq).elim (HQ9.out q) (fun k=>Nat.le_trans HB9.out.size k));have HB8:=qd (HB9.out.trans (hP.mod.below HQ9.out HB9.out.size))
        have HG8:=qd (show Calls Tryz.prog 11 #[pQ tb,nU key] w8 (fun e w'=>e= .returned (.float .f64 0)∧∃G',(∀q∈G',q∈G8∨w8.heap.size≤q)∧Mod G8 w8 w')from(Gr hP.at_ (by omega) key HKf.out.1).mono (by
         rintro y w' ⟨rfl,G',_,a2,a3⟩
         exact⟨by rw[HRk.out];rfl,G',a2,a3⟩))
        clear hP HAll HA9 HQ9 HB9 HRw9;go_wp2_with fail;refine HG8.out.mono ?_;rintro y w10 ⟨rfl,G9,a2,a3⟩;have HRk0:=qd (HRk8.out.to a2 a3);have HRw0:=qd (HRw8.out.to a2 a3);have HB0:=qd (HB8.out.trans (a3.below HQ8.out HB8.out.size));clear a2 a3 HRk8 HRw8 HQ8 HB8 HG8;go_wp2;go_loopw [225] (fun v225 wr=>∃i:Nat,i≤l1.length∧v225=nI i∧Hid (RowW wr G9 (.slice A8 l1.length c8) l1)∧Hid (RowW wr G9 (.slice A5 l1.length c5) l1)∧Hid (Below w.heap.size w wr)) (fun v225 _=>l1.length-(intOf v225).toNat)
        case atStart=>exact⟨0,by omega,rfl,HRk0,HRw0,HB0⟩
        case round=>
         clear HRk0 HRw0 HB0;obtain⟨i,hi,rfl,HRx,HRw,HB⟩:=hrel;by_cases hlt:i<l1.length
         ·have hlt':(i:Int)<(l1.length:Int):=by omega
          have hi0:(0:Int)≤(i:Int):=by omega
          have hwi:IntKind.i64.wrap ((i:Int)+1)=((i+1:Nat):Int):=by rw[IntKind.wrap_i64];omega
          obtain⟨p,hp⟩:∃p,l1[i]?=some p:=⟨_,List.getElem?_eq_getElem hlt⟩;obtain⟨g8,cx,he,_,r0,r1⟩:=HRx.out.cell hp
          obtain⟨rfl,hcx⟩:A8=some ⟨g8,0,none⟩∧c8=cx:=by injection he with e1 e2 e3;exact⟨e1,e3⟩
          obtain⟨g5,cy,he2,_,y0,y1⟩:=HRw.out.cell hp
          obtain⟨rfl,hcy⟩:A5=some ⟨g5,0,none⟩∧c5=cy:=by injection he2 with e1 e2 e3;exact⟨e1,e3⟩
          have hpl:=adA.out p (List.mem_of_getElem? hp);have heqW:=fun(V:World)=>eqIn_W p.1 p.2 (vB hpl.2.2) V;have adB:=fun(q:Addr) m (V:World)=>run_store Tryz.prog V q (.float .f64 p.2) m rfl;clear he hcx cx he2 hcy cy hp hpl;go_upto_region 42 with fail;clear adB;refine dA (F:=fun v=>aj v wr.heap.size 43 #[nU p.1,.float .f64 p.2]∧Below wr.heap.size wr v) ⟨aj.new wr 43 #[nU p.1,.float .f64 p.2],(Below.refl wr.heap.size wr).alloc (Nat.le_refl _) _⟩ ?_;rintro w6 ⟨nk,hb6⟩;obtain⟨bx,hbx⟩:∃bx,bx=wr.heap.size:=⟨_,rfl⟩;rw[←hbx]at nk⊢;obtain⟨x0,x1⟩:=nk.c2;replace y0:=aD hb6 y0;replace y1:=aD hb6 y1;have FE:=hb6.trans ((Below.refl w6.heap.size w6).drew.mono hb6.size);have HRx6:=qd (HRx.out.below FE);have HRw6:=qd (HRw.out.below FE);have AB:=qd (HB.out.trans (FE.mono HB.out.size));have HM:=qd (show l1.length-(i+1)<l1.length-i by omega);clear nk hb6 hbx FE r0 r1 HRx HRw HB;refine rT (fun(w':World)=>(w'.cell? ⟨bx,0,none⟩=some (nU p.1)∧w'.cell? ⟨bx,1,none⟩=some (.float .f64 p.2))∧w'.cell? ⟨g5,i*2,none⟩=some (nU p.1)∧w'.cell? ⟨g5,i*2+1,none⟩=some (.float .f64 p.2)) [] ?_;have hHeld:(fun(w':World)=>(w'.cell? ⟨bx,0,none⟩=some (nU p.1)∧w'.cell? ⟨bx,1,none⟩=some (.float .f64 p.2))∧w'.cell? ⟨g5,i*2,none⟩=some (nU p.1)∧w'.cell? ⟨g5,i*2+1,none⟩=some (.float .f64 p.2)) (World.drew w6):=⟨⟨x0,x1⟩,y0,y1⟩;refine vT 0 rfl ?_;refine vW 1 rfl ?_;refine vW 2 rfl ?_;refine vW 3 rfl ?_;refine vT 4 rfl ?_;refine tW 5 (some 235) (.bool false) rfl hHeld ?_
          try simp only[pt]
          refine aQ (by kernel_rfl) ?_ _;go_wp2;go_roundw
          case measure=>simp[intOf];exact HM.out
          exact⟨i+1,by omega,rfl,HRx6,HRw6,AB⟩
         ·obtain rfl:i=l1.length:=by omega
          have hlt':¬(l1.length:Int)<(l1.length:Int):=by omega
          clear HRx HRw;go_wp2;go_ret;exact⟨rfl,HB.out⟩
       |false=>
        obtain⟨hp0,hp1⟩:=abY (mW hadd) hrf hle
        cases hm:noRoom 100 (R key) l1.length with
        |true=>
         have HAdd:=qd (show Calls Tryz.prog 6 #[pQ tb,nU key,.float .f64 f] w7 (fun y w'=>y= .returned (.tuple #[.float .f64 0,.iface 344 (.pointer (some (E 2)))])∧iC W0 E 0 1 100 1 tb b G7 w7 w' (wN 100 R l1.length key r) (yA 100 (R key) l1.length) (gv+1+1+1))from ab4 HA7.out (by omega) key f r HKf.out.1 HKf.out.2 hfin (by rw[hR0];exact hadd) hrf hle hm)
         have hln:l1.length=100:=by
          rw[HRk.out]at hm
          have:100≤l1.length:=by simpa[noRoom]using hm
          omega
         have hln':((l1.length:Nat):Int)=100:=by omega
         have hns:=Nv f;rw[CU hfin]at hns
         have hin:pI f=false:=by
          have h:=JM f;rw[hfin,CU hfin]at h;simpa using h.symm
         have HInf:=qd (fun(V:World)=>show Calls Tryz.prog 10 #[.float .f64 f,.int .i64 0] V (fun e w'=>e= .returned (.bool false)∧V=w')from hin▸DX f HKf.out.2 V);have HRw7:=qd HRw7.out;clear hfin hadd hr hrf hR0 hle hm hp0 hp1 hin;go_wp2_with fail;refine HAdd.out.mono ?_;rintro y w8 ⟨rfl,hto⟩;obtain⟨G9,a1,a2,a3⟩:=hto;have HRw9:=qd (HRw7.out.to a2 a3);have HA9:=qd a1;have HQ9:=qd (show∀q∈G9,w.heap.size≤q from fun q hq=>(a2 q hq).elim (HQ7.out q) (fun k=>Nat.le_trans HB7.out.size k));have HB9:=qd (HB7.out.trans (a3.below HQ7.out HB7.out.size));clear a1 a2 a3 HA7 HQ7 HB7 HRw7 HAdd;go_wp2_with fail;refine(HInf.out _).mono ?_;rintro y wq ⟨rfl,rfl⟩;go_wp2;go_ret;exact⟨rfl,HB9.out⟩
        |false=>
         have HAdd:=qd (show Calls Tryz.prog 6 #[pQ tb,nU key,.float .f64 f] w7 (fun y w'=>y= .returned (.tuple #[.float .f64 r,.nilIface])∧iC W0 E 0 1 100 1 tb b G7 w7 w' (wN 100 R l1.length key r) (yA 100 (R key) l1.length) (gv+1+1+1))from acz HA7.out (by omega) key f r HKf.out.1 HKf.out.2 hfin (by rw[hR0];exact hadd) hrf hle hm)
         have hgtr:(FloatKind.f64.format.order r 0==some .gt)=true:=by
          rw[UW (vB hp1) (by decide:dX 0=false),CW hp1,show lH.key 0=0 by decide];exact decide_eq_true (by omega)
         have hneg:∀V:World,(Op.unary UnOp.neg (.float .f64 r)).run Tryz.prog V= .ok (.float .f64 (9223372036854775808+r)) V:=fun V=>by rw[unary_negW,neg_word (by omega)]
         have HAd2:=qd (fun(V:World) (G':List Nat) (hA:fC W0 E 0 1 100 1 tb b G' V (wN 100 R l1.length key r) (yA 100 (R key) l1.length) (gv+1+1+1))=>show Calls Tryz.prog 6 #[pQ tb,nU key,.float .f64 (9223372036854775808+r)] V (fun y w'=>y= .returned (.tuple #[.float .f64 0,.nilIface])∧iC W0 E 0 1 100 1 tb b G' V w' R (Rp (wN 100 R l1.length key r key) (yA 100 (R key) l1.length)) (gv+1+1+1))from by
          have hRr:wN 100 R l1.length key r key=some r:=by rw[putF_room hm];simp
          have h:=acF hA (by omega) key (9223372036854775808+r) 0 HKf.out.1 (by omega) (by unfold gV rung;exact decide_eq_true (by omega)) (by rw[hRr];exact add_opposite hp1) (by decide) rfl;rw[del_put HRk.out hm]at h
          exact h)
         clear hfin hadd hr hrf hR0 hle hm hp0 hp1;go_wp2_with fail;refine HAdd.out.mono ?_;rintro y w8x ⟨rfl,hto⟩;obtain⟨G8x,a1,a2,a3⟩:=hto;have HAd3:=qd (HAd2.out _ _ a1);have HRw8:=qd (HRw7.out.to a2 a3);have HQ8:=qd (show∀q∈G8x,w.heap.size≤q from fun q hq=>(a2 q hq).elim (HQ7.out q) (fun k=>Nat.le_trans HB7.out.size k));have HB8:=qd (HB7.out.trans (a3.below HQ7.out HB7.out.size));clear a1 a2 a3 HA7 HQ7 HB7 HRw7 HAdd HAd2;have HRw7:=HRw8;have HQ7:=HQ8;have HB7:=HB8;have HA7:True:=trivial;have HAdd:True:=trivial;clear HRw8 HQ8 HB8;go_wp2_with fail;refine HAd3.out.mono ?_;rintro y w9x ⟨rfl,hto⟩;obtain⟨G9,a1,a2,a3⟩:=hto;have HRw9:=qd (HRw7.out.to a2 a3);have HA9:=qd a1;have HQ9:=qd (show∀q∈G9,w.heap.size≤q from fun q hq=>(a2 q hq).elim (HQ7.out q) (fun k=>Nat.le_trans HB7.out.size k));have HB9:=qd (HB7.out.trans (a3.below HQ7.out HB7.out.size));clear a1 a2 a3 HA7 HQ7 HB7 HRw7 HAdd HAd3;have HAll:=qd (U3 HA9.out (by omega) (by omega) Yj.out.1 (fun k v e=>Nat.lt_trans (HR.out k v e).2.2 (by decide)));go_wp2_with fail;refine HAll.out.mono ?_;rintro y w8 ⟨vk,lk,G8,rfl,hP⟩;have hlk:l1=lk:=(ascW_same hP.qH HGet.out.1 (fun k=>by rw[hP.get,HGet.out.2])).symm;subst hlk;obtain⟨A8,c8,hv8⟩:=bE hP.row;subst hv8;have HRk8:=qd (show RowW w8 G8 (.slice A8 l1.length c8) l1 from⟨Ad hP.row (Nat.zero_le _),hP.apart⟩);have HRw8:=qd (HRw9.out.to hP.sub hP.mod);have HQ8:=qd (show∀q∈G8,w.heap.size≤q from fun q hq=>(hP.sub q hq).elim (HQ9.out q) (fun k=>Nat.le_trans HB9.out.size k))
         have HB8:=qd (HB9.out.trans (hP.mod.below HQ9.out HB9.out.size))
         have HG8:=qd (show Calls Tryz.prog 11 #[pQ tb,nU key] w8 (fun e w'=>e= .returned (.float .f64 0)∧∃G',(∀q∈G',q∈G8∨w8.heap.size≤q)∧Mod G8 w8 w')from(Gr hP.at_ (by omega) key HKf.out.1).mono (by
          rintro y w' ⟨rfl,G',_,a2,a3⟩
          exact⟨by rw[HRk.out];rfl,G',a2,a3⟩))
         clear hP HAll HA9 HQ9 HB9 HRw9;go_wp2_with fail;refine HG8.out.mono ?_;rintro y w10 ⟨rfl,G9,a2,a3⟩;have HRk0:=qd (HRk8.out.to a2 a3);have HRw0:=qd (HRw8.out.to a2 a3);have HB0:=qd (HB8.out.trans (a3.below HQ8.out HB8.out.size));clear a2 a3 HRk8 HRw8 HQ8 HB8 HG8;go_wp2;go_loopw [225] (fun v225 wr=>∃i:Nat,i≤l1.length∧v225=nI i∧Hid (RowW wr G9 (.slice A8 l1.length c8) l1)∧Hid (RowW wr G9 (.slice A5 l1.length c5) l1)∧Hid (Below w.heap.size w wr)) (fun v225 _=>l1.length-(intOf v225).toNat)
         case atStart=>exact⟨0,by omega,rfl,HRk0,HRw0,HB0⟩
         case round=>
          clear HRk0 HRw0 HB0;obtain⟨i,hi,rfl,HRx,HRw,HB⟩:=hrel;by_cases hlt:i<l1.length
          ·have hlt':(i:Int)<(l1.length:Int):=by omega
           have hi0:(0:Int)≤(i:Int):=by omega
           have hwi:IntKind.i64.wrap ((i:Int)+1)=((i+1:Nat):Int):=by rw[IntKind.wrap_i64];omega
           obtain⟨p,hp⟩:∃p,l1[i]?=some p:=⟨_,List.getElem?_eq_getElem hlt⟩;obtain⟨g8,cx,he,_,r0,r1⟩:=HRx.out.cell hp
           obtain⟨rfl,hcx⟩:A8=some ⟨g8,0,none⟩∧c8=cx:=by injection he with e1 e2 e3;exact⟨e1,e3⟩
           obtain⟨g5,cy,he2,_,y0,y1⟩:=HRw.out.cell hp
           obtain⟨rfl,hcy⟩:A5=some ⟨g5,0,none⟩∧c5=cy:=by injection he2 with e1 e2 e3;exact⟨e1,e3⟩
           have hpl:=adA.out p (List.mem_of_getElem? hp);have heqW:=fun(V:World)=>eqIn_W p.1 p.2 (vB hpl.2.2) V;have adB:=fun(q:Addr) m (V:World)=>run_store Tryz.prog V q (.float .f64 p.2) m rfl;clear he hcx cx he2 hcy cy hp hpl;go_upto_region 42 with fail;clear adB;refine dA (F:=fun v=>aj v wr.heap.size 43 #[nU p.1,.float .f64 p.2]∧Below wr.heap.size wr v) ⟨aj.new wr 43 #[nU p.1,.float .f64 p.2],(Below.refl wr.heap.size wr).alloc (Nat.le_refl _) _⟩ ?_;rintro w6 ⟨nk,hb6⟩;obtain⟨bx,hbx⟩:∃bx,bx=wr.heap.size:=⟨_,rfl⟩;rw[←hbx]at nk⊢;obtain⟨x0,x1⟩:=nk.c2;replace y0:=aD hb6 y0;replace y1:=aD hb6 y1;have FE:=hb6.trans ((Below.refl w6.heap.size w6).drew.mono hb6.size);have HRx6:=qd (HRx.out.below FE);have HRw6:=qd (HRw.out.below FE);have AB:=qd (HB.out.trans (FE.mono HB.out.size));have HM:=qd (show l1.length-(i+1)<l1.length-i by omega);clear nk hb6 hbx FE r0 r1 HRx HRw HB;refine rT (fun(w':World)=>(w'.cell? ⟨bx,0,none⟩=some (nU p.1)∧w'.cell? ⟨bx,1,none⟩=some (.float .f64 p.2))∧w'.cell? ⟨g5,i*2,none⟩=some (nU p.1)∧w'.cell? ⟨g5,i*2+1,none⟩=some (.float .f64 p.2)) [] ?_;have hHeld:(fun(w':World)=>(w'.cell? ⟨bx,0,none⟩=some (nU p.1)∧w'.cell? ⟨bx,1,none⟩=some (.float .f64 p.2))∧w'.cell? ⟨g5,i*2,none⟩=some (nU p.1)∧w'.cell? ⟨g5,i*2+1,none⟩=some (.float .f64 p.2)) (World.drew w6):=⟨⟨x0,x1⟩,y0,y1⟩;refine vT 0 rfl ?_;refine vW 1 rfl ?_;refine vW 2 rfl ?_;refine vW 3 rfl ?_;refine vT 4 rfl ?_;refine tW 5 (some 235) (.bool false) rfl hHeld ?_
           try simp only[pt]
           refine aQ (by kernel_rfl) ?_ _;go_wp2;go_roundw
           case measure=>simp[intOf];exact HM.out
           exact⟨i+1,by omega,rfl,HRx6,HRw6,AB⟩
          ·obtain rfl:i=l1.length:=by omega
           have hlt':¬(l1.length:Int)<(l1.length:Int):=by omega
           clear HRx HRw;go_wp2;go_ret;exact⟨rfl,HB.out⟩
end Go.Proofs.YtgkeameopnpinaaGreatDoor
