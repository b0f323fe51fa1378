/- A view's Entries by its contract. -/
import Derived.Test.YtjfgpnapccdnlaaGreatDoorCoK
import Derived.Test.YtjfgpnapccdnlaaGreatDoorSqT
import Derived.Test.YtjfgpnapccdnlaaGreatDoorBuilder
import Derived.Test.YtjfgpnapccdnlaaGreatDoorPlI
import Derived.Test.YtjfgpnapccdnlaaGreatDoorTabQ
import Derived.Test.YtjfgpnapccdnlaaGreatDoorLaneR
import Derived.BigRegion
import Derived.Test.YtjfgpnapccdnlaaGreatDoorKit2
namespace Go.Proofs.YtjfgpnapccdnlaaGreatDoor
set_option maxRecDepth 100000
set_option maxHeartbeats 2000000
open Go.RowKit Go.Shelf dF Go
attribute [local go_sem] Oper.semAt_some
theorem qK {w:World}{b b' e size n:Nat}{v:Value}{xs:List Value}(h:w.ownsRow b e size v n xs)(hb:b'≤b):w.ownsRow b' e size v n xs:=
 ⟨h.1,h.2.imp id fun⟨g,cap,cur,h1,h2,h3⟩=>⟨g,cap,cur,h1,Nat.le_trans hb h2,h3⟩⟩
theorem Zd:(Tryz.prog.info? 148).map (fun i=>(i.zero,i.size,i.bytes))=some (some (.agg #[.int .u64 0,.int .u64 0,.int .u64 0]),3,24):=by kernel_rfl
theorem Cr {B base n:Nat}{V V2 w4:World}{e:TypeId}{size:Nat}{v v4:Value}{xs:List Value}(_:B≤V.heap.size)(hb:Below V.heap.size V V2)(ho:V2.ownsRow base e size v n xs)(hg:jL V2 base v w4 v4):KeepsFrom B V w4:=by
 have h1:KeepsOthers V V2:=⟨hb.size,fun k o hk _=>(hb.block k (Array.getElem?_eq_some_iff.1 hk).1).trans hk⟩
 have h2:KeepsOthers V2 w4:=KeepsOthers.of_grownBy hg.kV (fun j o hj ho'=>by
  rcases ho.2 with⟨rfl,_⟩|⟨g,cap,cur,rfl,_,hh,_⟩
  ·simp[Value.ownBlock]at hj
  ·have:g=j:=by simpa[Value.ownBlock]using hj
   subst this;rw[hh]at ho'
   cases ho';rfl)
 exact(h1.trans h2).from B
theorem Ze:qc Tryz.prog 374 148 3 24:=xH Tryz.underlying374 Zd rfl (by decide) (by decide)
def uJ (l:List Nat)(es:List ay):List ay:=(bW 0 (qC l)).map fun i=>es.getD i ⟨0,0,0⟩
def atR (es:List ay)(pre:List (Fin 8)):List ay:=pre.map fun x=>es.getD x.val ⟨0,0,0⟩
theorem IG (l:List Nat):Marks (qC l):=qY _
theorem QY (l:List Nat):(qC l).length=l.length:=by simp[qC,CZ]
theorem Ou {l:List Nat}{es:List ay}{ys:List (Fin 8)}(hys:ys.map Fin.val=bW 0 ((qC l).map eB)):atR es ys=uJ l es:=by
 rw[uS (IG l)]at hys;unfold uJ atR;rw[←hys,List.map_map];rfl
theorem Zf (es:List ay)(pre:List (Fin 8))(x:Fin 8):(atR es (pre++[x])).flatMap aO=(atR es pre).flatMap aO++aO (es.getD x.val ⟨0,0,0⟩):=by simp[atR]
theorem Ov (gb:Nat)(t:TypeId)(ahead post:List Value)(go:Nat)(l:List Nat)(es:List ay)(w:World)(h:bV w gb t ahead post go l es)(hT:gF w):
  Calls Tryz.prog 262 #[bg ⟨gb,go,none⟩] w fun e w'=>∃A c,e= .returned (.slice A (uJ l es).length c)∧w'.ownsRow w.heap.size 148 3 (.slice A (uJ l es).length c) (uJ l es).length ((uJ l es).flatMap aO)∧Below w.heap.size w w':=by
 obtain⟨W,hW,hB,hV,hO⟩:=qP w 198 #[.pointer (some ⟨gb,go,none⟩)] 374 #[.slice none 0 0];have hG:=h.below hB;have HF:=qd (TI l h.l8 h.bytes);have HW:=qd hW;have HB:=qd hB;have hg:=World.block_lt_of_cell? w _ (hT 0 (by omega));have Ot:=h.l8;unfold bg;clear hW hB;refine(callsIn_wide (n:=10)).1 ?_
 have h1:1≤10:=by omega
 refine lu Tryz.func262 rfl trivial rfl ?_;simp only[Tryz.ntmps262,List.size_toArray,List.length_cons,List.length_nil,Nat.reduceAdd,Nat.reduceSub,Array.replicate_succ,Array.replicate_zero,List.push_toArray,List.append_toArray,List.nil_append,List.cons_append];refine wpIn_wide.2 ?_;go_upto_region 2 with fail;rw[←HW.out];have v0:=hV.cell 0;simp only[List.getElem?_toArray,List.getElem?_cons_zero]at v0;have hw:=hG.word;go_wp2_with fail;refine(HF.out _).mono ?_;rintro e w1 ⟨rfl,rfl⟩;go_wp2_with fail;refine(IC (qC l) _).mono ?_;rintro e w1 ⟨rfl,hw1⟩;have hb1:Below W.heap.size W w1:=hw1▸(Below.refl W.heap.size W).alloc (Nat.le_refl _) _;have hL1:aj w1 W.heap.size 28 #[.int .u64 ((w8 (qC l):Nat):Int)]:=hw1▸aj.new W _ _;clear hw1;replace v0:=aA hb1 v0;replace hw:=aA hb1 hw;go_wp2_with fail;refine(wpIn_wide (n:=10)).1 ?_;have hB1:Below w.heap.size w w1:=bP hb1 HB.out;have hlt3:w.heap.size+1<W.heap.size:=hO.lt;have hgl:gb<w.heap.size:=h.lt;have hT1:gF w1:=fun i hi=>(hB1.cell (p:=⟨21,pJ i,none⟩) hg).trans (hT i hi);have hG1:=hG.below hb1;have yY:Boxed w1 (w.heap.size+1) 374 (.slice none 0 0):=hO.below hb1 hO.lt;have hbl:=hB1.size;have hbs:=hb1.size;clear h
 refine wpIn_rangeFunc_ownH rfl h1 (gf:=248) (lb:= #[.pointer (some ⟨W.heap.size,0,none⟩)]) rfl trivial (enters_of Tryz.func248 (by kernel_rfl) rfl)
  (Fy (10-1) (by omega) W.heap.size w1.heap.size [w.heap.size+1] (qC l) (by rw[QY];exact Ot) (IG l).bytes w1 (by omega) (by simp;omega) (Nat.le_refl _) hL1.lt (hL1.cell 0) hT1) dI (xC (Nat.le_refl _)) (Below.refl _ _) (fun _=>rfl)
  (fun pre V=>(∃v,Boxed V (w.heap.size+1) 374 v∧V.ownsRow w1.heap.size 148 3 v pre.length ((atR es pre).flatMap aO)∧True)∧aT w1.heap.size [w.heap.size+1] w1 V)
  (fun _ _ _=>False)
  (OwnFrom.and (Own.from (holdsRow_own w1.heap.size (w.heap.size+1) 374 148 3 List.length (fun pre=>(atR es pre).flatMap aO) (fun _ _=>True)) _) (qD (Nat.le_refl _) (Nat.le_refl _)))
  (fun _ _ _ _ _ hs _ _=>hs)
  ⟨⟨_,yY,⟨by simp[atR],.inl ⟨rfl,rfl⟩⟩,trivial⟩,aT.refl _ _ _⟩
  (fun x a' _=>a'={tmps:= #[.agg #[.pointer (some ⟨gb,go,none⟩)],.pointer (some ⟨w.heap.size,0,none⟩),.slice none 0 0,.pointer (some ⟨w.heap.size+1,0,none⟩),.int .i64 (x.val:Int),.pointer (some ⟨w.heap.size,0,none⟩),.pointer (some ⟨gb,go,none⟩),.pointer (some ⟨gb,go,none⟩),.pointer (some ⟨gb,go,none⟩),.int .u64 ((w8 l:Nat):Int),.int .u64 ((w8 (qC l):Nat):Int),.func (.func 248) #[] #[.pointer (some ⟨W.heap.size,0,none⟩)],.int .i64 (x.val:Int),undef,undef,undef,undef,undef,undef,undef,undef,undef,undef,undef],defers:=[]})
  (fun _ _ _ _ _ _ hs _ _=>hs) ?assign ?body ?done ?stop
 case assign=>
  rintro lp pre x V K hi hK
  gi_wp2
  exact hK _ _ (KeepsFrom.refl _ _) (aT.refl _ _ _) hi rfl
 case body=>
  rintro lp pre x a' V hl ⟨r,hr⟩ ⟨⟨v,wG,hO,-⟩,oL⟩ rfl hlt;have KR:x.val<8:=x.isLt;have aeS:gb<w1.heap.size:=hG1.lt
  have hgn:gb∉[w.heap.size+1]:=by simp;omega
  have hv:=(oL.cell (p:=⟨w.heap.size,0,none⟩) (by show w.heap.size<_;omega) (by simp)).trans v0;have hGV:bV V gb t ahead post go l es:=⟨hG1.len,hG1.l8,hG1.bytes,hG1.e8,oL.blk hG1.blk aeS hgn⟩;obtain⟨A,c,rfl⟩:=aH hO;have ho:=wG.cell;have s0:=hGV.at_ x.val 0 KR (by omega);have s1:=hGV.at_ x.val 1 KR (by omega);have s2:=hGV.at_ x.val 2 KR (by omega);rw[Nat.add_zero]at s0
  have hxi:(x.val:Int)<8:=by omega
  have hx0:(0:Int)≤(x.val:Int):=by omega
  have dO:=qd (Zf es pre x);have Dj:=oL.size;clear hGV;generalize es.getD x.val ⟨0,0,0⟩=x1 at*;simp only[aO,List.getElem?_cons_zero,List.getElem?_cons_succ]at s0 s1 s2
  gi_wp2_with fail
  refine Bv (fun(w':World)=>w'.cell? ⟨w.heap.size,0,none⟩=some (.pointer (some ⟨gb,go,none⟩))∧w'.cell? ⟨w.heap.size+1,0,none⟩=some (.slice A pre.length c)∧w'.cell? ⟨gb,go+1+x.val*3,none⟩=some (.int .u64 (x1.key:Int))∧w'.cell? ⟨gb,go+1+x.val*3+1,none⟩=some (.int .u64 (x1.val:Int))∧w'.cell? ⟨gb,go+1+x.val*3+2,none⟩=some (.int .u64 (x1.hash:Int))) [9,10] (by kernel_rfl) (by kernel_rfl) (by rintro⟨_,_,h⟩;exact h) ?_
  try (change bN _ _ _ _ _ _ _ _ _ (World.drew _))
  have hHeld:=(⟨hv,ho,s0,s1,s2⟩:_∧_∧_∧_∧_);refine vT 0 rfl ?_;refine vW 1 rfl ?_;refine vW 3 rfl ?_;refine nT 2 rfl fun K hK=> ?_;go_simp;refine kO hK ?_;clear hK K;refine vW 4 rfl ?_;refine vW 5 rfl ?_;refine vW 6 rfl ?_;refine vT 7 rfl ?_;refine nT 8 rfl fun K hK=> ?_;go_simp;have hb2:Below V.heap.size V (V.alloc (.cells #[.int .u64 (x1.key:Int),.int .u64 (x1.val:Int),.int .u64 (x1.hash:Int)] 148)).drew:=((Below.refl V.heap.size V).alloc (Nat.le_refl _) _).drew;obtain⟨V2,hV2⟩:∃V2,V2=(V.alloc (.cells #[.int .u64 (x1.key:Int),.int .u64 (x1.val:Int),.int .u64 (x1.hash:Int)] 148)).drew:=⟨_,rfl⟩;have hN2:aj V2 V.heap.size 148 #[.int .u64 (x1.key:Int),.int .u64 (x1.val:Int),.int .u64 (x1.hash:Int)]:=hV2▸(aj.new V _ _).drew;have hO2:V2.ownsRow w1.heap.size 148 3 (.slice A pre.length c) pre.length ((atR es pre).flatMap aO):=own_below hO (hV2▸hb2) (Nat.le_refl _);rw[←hV2]at hb2⊢;clear hV2;have hHeld:=(⟨aA hb2 hv,aA hb2 ho,aA hb2 s0,aA hb2 s1,aA hb2 s2⟩:_∧_∧_∧_∧_);refine kO hK ?_;clear hK K;refine nT 9 rfl fun K hK=> ?_;refine ng (by rfl) (by rfl) Ze hO2 (by rfl) (by rfl) (rA (size:=3) (m:=1) hN2 (by rfl)) (by rfl) (by omega) (by have:=hb2.size;have:=Dj;omega) ?_;intro v4 w4 dh gN;obtain⟨A4,c4,rfl⟩:=aH dh;have hox:Boxed w4 (w.heap.size+1) 374 (.slice A pre.length c):=(gN.below.block _ (by omega)).trans ((hb2.block _ wG.lt).trans wG);have o4:=hox.cell;have f4:=hox.frozen
  have hK4:aT w1.heap.size [w.heap.size+1] w1 w4:=dI oL (dI ((Mod.of_below hb2 _).wS Dj) (aT.of_below gN.below));have Dk:KeepsFrom w1.heap.size V w4:=Cr Dj hb2 hO2 gN;refine kO hK ?_;clear hK K;refine nT 10 rfl fun K hK=> ?_;go_simp;refine kO hK ?_;clear hK K;refine aX (by kernel_rfl) ?_ _;have hfin:Boxed (w4.setCell ⟨w.heap.size+1,0,none⟩ (.slice A4 (pre.length+1) c4)) (w.heap.size+1) 374 (.slice A4 (pre.length+1) c4):=hox.set _
  have Zg:(Value.slice A4 (pre.length+1) c4).ownBlock≠some (w.heap.size+1):=fun he=>by
   have:=(dh.lt _ he).1;omega
  have hown5:=dh.kept (grownBy_setCell' w4 (w.heap.size+1) (.slice A4 (pre.length+1) c4)) (.inr Zg);have vR:=Dk.trans ((KeepsOthers.setCell w4 ⟨w.heap.size+1,0,none⟩ (.slice A4 (pre.length+1) c4)).from _);have yZ:aT w1.heap.size [w.heap.size+1] w1 (w4.setCell ⟨w.heap.size+1,0,none⟩ (.slice A4 (pre.length+1) c4)):=hK4.ak (.inl (by simp)) _ _;have Wp:aT w1.heap.size [w.heap.size+1] V (w4.setCell ⟨w.heap.size+1,0,none⟩ (.slice A4 (pre.length+1) c4)):=(dI ((Mod.of_below hb2 _).wS Dj) (aT.of_below gN.below)).ak (.inl (by simp)) _ _;have HE:=qd (And.intro vR (And.intro Wp (And.intro (And.intro hfin hown5) yZ)));clear vR Wp hfin hown5 yZ Dk hK4 dh gN hox
  gi_wp2
  exact⟨HE.out.1,HE.out.2.1,⟨_,HE.out.2.2.1.1,by rw[dO.out,List.length_append];exact HE.out.2.2.1.2⟩,HE.out.2.2.2⟩
 case done=>
  rintro D ys V hD hys ⟨⟨v,wG,hO,-⟩,oL⟩ rC;obtain⟨A,c,rfl⟩:=aH hO;have ho:=wG.cell
  have hlen:ys.length=(uJ l es).length:=by rw[←Ou hys];simp[atR]
  rw[Ou hys,hlen]at hO;rw[hlen]at wG ho;have RU:=(Mod.of_below hB1 [w.heap.size+1]).then oL.mod;have fV:=qd hO;clear hO;go_wp2;refine xD ⟨by simp,.inl ⟨_,_,rfl,run_takeDeferred rC, ?_⟩⟩;refine⟨.slice A (uJ l es).length c, ?_,A,c,rfl, ?_, ?_⟩
  ·simp[results,Tryz.f262,go_sem]
  ·exact qK (ownsRow_putObj fV.out _ rC rfl) (by omega)
  ·exact(RU.below (by simp) (Nat.le_refl _)).trans (belowK_b (w:=w) (Nat.le_refl _) V D _ _ (by omega) rC rfl rfl)
 case stop=>
  rintro D c pre V hD hS hI;exact hI.elim
end Go.Proofs.YtjfgpnapccdnlaaGreatDoor

/-! A group as slots and as bytes: what the lanes tell of the slots. No program in sight. -/
namespace Go.Proofs.YtjfgpnapccdnlaaGreatDoor.dF
set_option maxRecDepth 100000
set_option maxHeartbeats 2000000
open Go.RowKit Go.Shelf dF Go
def Slot.ent:Slot→ay
 | .full e=>e
 |_=>⟨0,0,0⟩
theorem RV (h b:Nat):kX h b=128↔b=h:=by unfold kX;split<;>simp_all
theorem Zh (x:Slot)(h:Nat)(hh:h<128):x.byte=h↔∃e,x= .full e∧e.hash % 128=h:=by
 cases x with
 |empty=>simp[Slot.byte];omega
 |qg=>simp[Slot.byte];omega
 |full e=>simp[Slot.byte]
theorem II (key hash:Nat)(f:Nat→ay):∀(G:kK) (s:Nat),(∀k x,G[k]?=some x→f (s+k)=x.ent)→
  (bW s (G.map fun x=>kX (hash % 128) x.byte)).find? (fun i=>(f i).key==key)=(gJ G key hash).map (s+·)
 | [],_,_=>rfl
 |x::G,s,hf=>by
  have ih:=II key hash f G (s+1) (fun k y hy=>by have:=hf (k+1) y (by simpa using hy);rwa [show s+(k+1)=s+1+k by omega]at this);have h0:f s=x.ent:=hf 0 x rfl
  have hm:(gJ G key hash).map (s+1+·)=((gJ G key hash).map (·+1)).map (s+·):=by
   cases gJ G key hash with
   |none=>rfl
   |some k=>simp;omega
  rw[List.map_cons,bW];unfold gJ at ih hm⊢;rw[List.findIdx?_cons];by_cases hx:x.byte=hash % 128
  ·obtain⟨e,rfl,he⟩:=(Zh x _ (by omega)).1 hx;rw[if_pos ((RV _ _).2 hx),List.find?_cons,h0];by_cases hk:e.key=key
   ·have:Slot.isKey key hash (.full e)=true:=by simp[Slot.isKey,he,hk]
    rw[this];simp[Slot.ent,hk]
   ·have:Slot.isKey key hash (.full e)=false:=by simp[Slot.isKey,hk]
    rw[this]
    have h1:((Slot.ent (.full e)).key==key)=false:=by simpa[Slot.ent]using hk
    rw[h1];simp only[Bool.false_eq_true,if_false];rw[ih,hm]
  ·have:Slot.isKey key hash x=false:=by
    cases x with
    |empty=>rfl
    |qg=>rfl
    |full e=>simp[Slot.byte]at hx;simp[Slot.isKey,hx]
   rw[if_neg (fun h=>hx ((RV _ _).1 h)),this,ih,hm];simp
theorem Wq (x:Slot):eB x.byte=128↔x.isFull=false:=by
 cases x with
 |empty=>simp[Slot.byte,eB,Slot.isFull]
 |qg=>simp[Slot.byte,eB,Slot.isFull]
 |full e=>
  have:=Nat.mod_lt e.hash (show 0<128 by omega)
  have h1:eB (e.hash % 128)=0:=by unfold eB;rw[if_pos this]
  show eB (e.hash % 128)=128↔_;rw[h1];simp[Slot.isFull]
theorem Uc (G:kK):firstM ((G.map Slot.byte).map eB)=kY G:=by
 unfold firstM kY;rw[List.map_map,List.findIdx?_map];congr 1;funext x;rw[Bool.eq_iff_iff];simp[Wq]
theorem Gr (G:kK):(G.map Slot.byte).any (·==128)=dA G:=by
 unfold dA;rw[List.any_map];congr 1;funext x
 cases x with
 |empty=>rfl
 |qg=>rfl
 |full e=>simp[Slot.byte,Slot.isEmpty];omega
theorem IJ (f:Nat→ay):∀(G:kK) (s:Nat),(∀k x,G[k]?=some x→f (s+k)=x.ent)→(bW s (G.map fun x=>eB (255-x.byte))).map f=bI G
 | [],_,_=>rfl
 |x::G,s,hf=>by
  have ih:=IJ f G (s+1) (fun k y hy=>by have:=hf (k+1) y (by simpa using hy);rwa [show s+(k+1)=s+1+k by omega]at this);have h0:f s=x.ent:=hf 0 x rfl
  have hg:bI (x::G)=x.ents++bI G:=by simp[bI]
  rw[List.map_cons,bW,hg]
  cases x with
  |empty=>rw[if_neg (by simp[Slot.byte,eB]),ih];rfl
  |qg=>rw[if_neg (by simp[Slot.byte,eB]),ih];rfl
  |full e=>
   have h1:eB (255-e.hash % 128)=128:=by unfold eB;rw[if_neg (by omega)]
   rw[if_pos (show eB (255-(Slot.full e).byte)=128 from h1),List.map_cons,ih,h0];rfl
theorem y5 (G:kK)(i:Nat)(x:Slot):(G.set i x).map Slot.byte=(G.map Slot.byte).set i x.byte:=List.map_set
theorem qE (G:kK)(i:Nat)(x:Slot):(G.set i x).map Slot.ent=(G.map Slot.ent).set i x.ent:=List.map_set
theorem Bw (G:kK)(i:Nat):(G.map Slot.ent).getD i ⟨0,0,0⟩=(G.getD i .empty).ent:=by
 rw[List.getD_eq_getElem?_getD,List.getD_eq_getElem?_getD,List.getElem?_map]
 cases G[i]?<;>rfl
theorem KS (G:kK)(i:Nat)(hi:i<G.length):(G.map Slot.byte).getD i 0=(G.getD i .empty).byte:=by
 rw[List.getD_eq_getElem?_getD,List.getD_eq_getElem?_getD,List.getElem?_map,List.getElem?_eq_getElem hi];rfl
theorem Ws (x:Slot):x.byte<128↔x.isFull=true:=by
 cases x with
 |empty=>simp[Slot.byte,Slot.isFull]
 |qg=>simp[Slot.byte,Slot.isFull]
 |full e=>simp[Slot.byte,Slot.isFull];omega
theorem Wt (x:Slot)(h:x.isFull=false):(x.byte==254)=x.iD:=by
 cases x with
 |empty=>rfl
 |qg=>rfl
 |full e=>cases h
end Go.Proofs.YtjfgpnapccdnlaaGreatDoor.dF

/-! A group of slots in memory: its view's functions, told of slots. -/
namespace Go.Proofs.YtjfgpnapccdnlaaGreatDoor
set_option maxRecDepth 100000
set_option maxHeartbeats 2000000
open Go.RowKit Go.Shelf dF Go
def mq (w:World)(gb:Nat)(t:TypeId)(pre post:List Value)(go:Nat)(G:kK):Prop:=bV w gb t pre post go (G.map Slot.byte) (G.map Slot.ent)
section
variable {w w' : World} {gb go : Nat} {t : TypeId} {pre post : List Value} {G : kK}
theorem mq.len8 (h:mq w gb t pre post go G):G.length=8:=by have:=h.l8;simpa using this
theorem mq.lt (h:mq w gb t pre post go G):gb<w.heap.size:=h.blk.lt
theorem mq.mod {S:List Nat}(h:mq w gb t pre post go G)(hm:Mod S w w')(hg:gb∉S):mq w' gb t pre post go G:=bV.mod h hm hg
instance {w w':World}{gb:Nat}{t:TypeId}{pre post:List Value}{go:Nat}{G:kK}:Md (mq w gb t pre post go G) w w' (mq w' gb t pre post go G) (fun S=>gb∉S):=⟨fun h hm hs=>mq.mod h hm hs⟩
theorem mq.below (h:mq w gb t pre post go G)(hb:Below w.heap.size w w'):mq w' gb t pre post go G:=bV.below h hb
theorem mq.keep {n₀:Nat}{S:List Nat}(h:mq w gb t pre post go G)(hm:aT n₀ S w w')(hn:gb<n₀)(hg:gb∉S):mq w' gb t pre post go G:=⟨h.len,h.l8,h.bytes,h.e8,hm.blk h.blk hn hg⟩
end
section
variable (gb : Nat) (t : TypeId) (pre post : List Value) (go : Nat) (G : kK) (w : World) (h : mq w gb t pre post go G)
include h
theorem Aj (i:Nat)(hi:i<8):(G.map Slot.byte).getD i 0<128↔(G.getD i .empty).isFull=true:=by
 rw[KS G i (by rw[h.len8];exact hi),Ws]
theorem Zi (key hash:Nat)(h64:hash<18446744073709551616)(hT:gF w):
  Calls Tryz.prog 140 #[bg ⟨gb,go,none⟩,.int .u64 (key:Int),.int .u64 (hash:Int)] w fun e w'=>e= .returned (.int .i64 (uj (gJ G key hash)))∧Below w.heap.size w w':=by
 have:=Wo gb t pre post go _ _ key hash h64 w h hT;unfold EI at this;rw[List.map_map]at this
 have he:=II key hash (fun i=>(G.map Slot.ent).getD i ⟨0,0,0⟩) G 0 (fun k x hk=>by
  rw[Nat.zero_add,Bw,List.getD_eq_getElem?_getD,hk];rfl)
 have hm:(gJ G key hash).map (0+·)=gJ G key hash:=by cases gJ G key hash<;>simp
 rw[hm]at he;rw[show(bW 0 (List.map (kX (hash % 128)∘Slot.byte) G))=bW 0 (G.map fun x=>kX (hash % 128) x.byte)from rfl,he]at this;exact this
theorem Zj (hT:gF w):Calls Tryz.prog 139 #[bg ⟨gb,go,none⟩] w fun e w'=>e= .returned (.int .i64 (uj (kY G)))∧Below w.heap.size w w':=by
 have:=Wh gb t pre post go _ _ w h hT
 rwa [Uc]at this
theorem Zk:Calls Tryz.prog 141 #[bg ⟨gb,go,none⟩] w fun e w'=>e= .returned (.bool (dA G))∧Below w.heap.size w w':=by
 have:=Df gb t pre post go _ _ w h
 rwa [Gr]at this
theorem Fz (i:Nat)(hi:i<8)(e:ay)(he:G.getD i .empty= .full e):
  Calls Tryz.prog 142 #[bg ⟨gb,go,none⟩,.int .i64 (i:Int)] w fun x w'=>x= .returned (.tuple #[aW e,.bool true])∧Below w.heap.size w w':=by
 have:=Oh gb t pre post go _ _ i hi w h ((Aj gb t pre post go G w h i hi).2 (by rw[he];rfl))
 rwa [Bw,he]at this
theorem KT (i:Nat)(hi:i<8)(he:(G.getD i .empty).isFull=false)(E:Nat→Addr)(hE:dL E w 5):
  Calls Tryz.prog 142 #[bg ⟨gb,go,none⟩,.int .i64 (i:Int)] w fun x w'=>x= .returned (.tuple #[aW ⟨0,0,0⟩,.bool false])∧Below w.heap.size w w':=
 TU gb t pre post go _ _ i hi w h (fun hl=>by rw[(Aj gb t pre post go G w h i hi).1 hl]at he;cases he) E hE
theorem ab4 (i:Nat)(hi:i<8)(e:ay)(h64:e.hash<18446744073709551616)(he:(G.getD i .empty).isFull=false):
  Calls Tryz.prog 145 #[bg ⟨gb,go,none⟩,.int .i64 (i:Int),aW e] w fun x w'=>x= .returned (.tuple #[.bool (G.getD i .empty).iD,.nilIface])∧mq w' gb t pre post go (G.set i (.full e))∧Mod [gb] w w':=by
 have:=Y7 gb t pre post go _ _ i hi e h64 w h (fun hl=>by rw[(Aj gb t pre post go G w h i hi).1 hl]at he;cases he);rw[KS G i (by rw[h.len8];exact hi),Wt _ he]at this;refine this.mono fun x w' ⟨h1,h2,h3⟩=>⟨h1, ?_,h3⟩;unfold mq;rw[y5,qE];exact h2
theorem ab5 (i:Nat)(hi:i<8)(v:Nat)(e:ay)(he:G.getD i .empty= .full e):
  Calls Tryz.prog 143 #[bg ⟨gb,go,none⟩,.int .i64 (i:Int),.int .u64 (v:Int)] w fun x w'=>x= .returned .nilIface∧mq w' gb t pre post go (G.set i (.full {e with val:=v}))∧Mod [gb] w w':=by
 have Ot:i<G.length:=by rw[h.len8];exact hi
 have:=Y8 gb t pre post go _ _ i hi v w h ((Aj gb t pre post go G w h i hi).2 (by rw[he];rfl));rw[Bw,he]at this;refine this.mono fun x w' ⟨h1,h2,h3⟩=>⟨h1, ?_,h3⟩;unfold mq;rw[y5,qE]
 have hb:(G.map Slot.byte).set i (Slot.full {e with val:=v}).byte=G.map Slot.byte:=by
  apply List.ext_getElem?;intro k;rw[List.getElem?_set];split
  ·next hk=>
   subst hk;rw[if_pos (by simpa using Ot),List.getElem?_map,List.getElem?_eq_getElem Ot]
   have:G[i]= .full e:=by rw[←he,dF.getD_in Ot]
   rw[this];rfl
  ·rfl
 rw[hb];exact h2
theorem Wu (i:Nat)(hi:i<8)(e:ay)(he:G.getD i .empty= .full e):
  Calls Tryz.prog 320 #[bg ⟨gb,go,none⟩,.int .i64 (i:Int)] w fun x w'=>x= .returned (.tuple #[.bool !(dA G),.nilIface])∧mq w' gb t pre post go (G.set i (if dA G then .empty else .qg))∧Mod [gb] w w':=by
 have hm:=(Aj gb t pre post go G w h i hi).2 (by rw[he];rfl)
 cases ho:dA G with
 |true=>
  refine(Iz gb t pre post go _ _ i hi w h hm (by rw[Gr];exact ho)).mono fun x w' ⟨h1,h2,h3⟩=>⟨h1, ?_,h3⟩;unfold mq;rw[y5,qE];exact h2
 |false=>
  refine(IB gb t pre post go _ _ i hi w h hm (by rw[Gr];exact ho)).mono fun x w' ⟨h1,h2,h3⟩=>⟨h1, ?_,h3⟩;unfold mq;rw[y5,qE];exact h2
theorem KU:Calls Tryz.prog 133 #[bg ⟨gb,go,none⟩] w fun x w'=>x= .returned undef∧mq w' gb t pre post go (List.replicate 8 .empty)∧Mod [gb] w w':=TV gb t pre post go _ _ w h
theorem FB (hT:gF w):Calls Tryz.prog 262 #[bg ⟨gb,go,none⟩] w fun e w'=>∃A c,e= .returned (.slice A (bI G).length c)∧
  w'.ownsRow w.heap.size 148 3 (.slice A (bI G).length c) (bI G).length ((bI G).flatMap aO)∧Below w.heap.size w w':=by
 have:=Ov gb t pre post go _ _ w h hT
 have he:uJ (G.map Slot.byte) (G.map Slot.ent)=bI G:=by
  unfold uJ qC CZ;rw[List.map_map,List.map_map];exact IJ _ G 0 (fun k x hk=>by rw[Nat.zero_add,Bw,List.getD_eq_getElem?_getD,hk];rfl)
 rwa [he]at this
end
end Go.Proofs.YtjfgpnapccdnlaaGreatDoor

/-! A table in memory. -/
namespace Go.Proofs.YtjfgpnapccdnlaaGreatDoor
set_option maxRecDepth 100000
set_option maxHeartbeats 2000000
open Go.RowKit Go.Shelf dF Go
variable {G : kK} {gs : Tab} {i : Nat} {S : List Nat}
structure aD where
 gs:Tab
 live:Int
 bO:Int
def xR (G:kK):List Value:=eZ (G.map Slot.byte) (G.map Slot.ent)
def bY (gs:Tab):List Value:=gs.flatMap xR
structure TabAt (w:World)(tb gb:Nat)(T:aD):Prop where
 wide:qH T.gs
 tab:aj w tb 250 #[.slice (some ⟨gb,0,none⟩) T.gs.length T.gs.length,.int .i64 T.live,.int .i64 T.bO]
 IK:aj w gb 254 (bY T.gs).toArray
 ne:tb≠gb
theorem ML (h:G.length=8):(xR G).length=25:=by unfold xR eZ;rw[List.length_cons,fU,List.length_map,h]
theorem IL (h:qH gs):(bY gs).length=gs.length*25:=by
 induction gs with
 |nil=>rfl
 |cons G gs ih=>
  have h1:=ML (h G (by simp));have h2:=ih (fun X hX=>h X (by simp[hX]));unfold bY at h2⊢;rw[List.flatMap_cons,List.length_append,h1,h2,List.length_cons];omega
theorem QZ (hi:i<gs.length):bY gs=bY (gs.take i)++(xR (gs.getD i [])++bY (gs.drop (i+1))):=by
 conv=>lhs;rw[xO (d:=[]) hi]
 simp[bY]
theorem Ow (hi:i<gs.length)(G:kK):bY (gs.set i G)=bY (gs.take i)++(xR G++bY (gs.drop (i+1))):=by
 rw[oH hi];simp[bY]
theorem Zl (h:qH gs)(i:Nat)(hG:G.length=8):qH (gs.set i G):=fun X hX=>by
 rcases List.mem_or_eq_of_mem_set hX with hX|rfl
 ·exact h X hX
 ·exact hG
section
variable {w w' : World} {tb gb : Nat} {T : aD}
theorem TabAt.aU (h:TabAt w tb gb T):tb<w.heap.size:=h.tab.lt
theorem TabAt.aV (h:TabAt w tb gb T):gb<w.heap.size:=h.IK.lt
theorem TabAt.mod (h:TabAt w tb gb T)(hm:Mod S w w')(h1:tb∉S)(h2:gb∉S):TabAt w' tb gb T:=⟨h.wide,h.tab.mod hm h1,h.IK.mod hm h2,h.ne⟩
instance {w w':World}{tb gb:Nat}{T:aD}:Md (TabAt w tb gb T) w w' (TabAt w' tb gb T) (fun S=>tb∉S∧gb∉S):=⟨fun h hm hs=>h.mod hm hs.1 hs.2⟩
theorem TabAt.below (h:TabAt w tb gb T)(hb:Below w.heap.size w w'):TabAt w' tb gb T:=h.mod (Mod.of_below hb []) (by simp) (by simp)
theorem TabAt.keep {n₀:Nat}(h:TabAt w tb gb T)(hm:aT n₀ S w w')(h1:tb<n₀)(h2:gb<n₀)(h3:tb∉S)(h4:gb∉S):TabAt w' tb gb T:=⟨h.wide,hm.blk h.tab h1 h3,hm.blk h.IK h2 h4,h.ne⟩
theorem TabAt.group (h:TabAt w tb gb T)(i:Nat)(hi:i<T.gs.length):mq w gb 254 (bY (T.gs.take i)) (bY (T.gs.drop (i+1))) (i*25) (T.gs.getD i []):=by
 have hw:qH (T.gs.take i):=fun X hX=>h.wide X (List.mem_of_mem_take hX);have h8:=h.wide.at_ hi;refine⟨by rw[IL hw,List.length_take];congr 1;omega,by simpa using h8,VQ _,by simpa using h8, ?_⟩;have:=h.IK;rw[QZ hi]at this;exact this
theorem TabAt.oM (h:TabAt w tb gb T)(i:Nat)(hi:i<T.gs.length)(hm:Mod [gb] w w')(hG:mq w' gb 254 (bY (T.gs.take i)) (bY (T.gs.drop (i+1))) (i*25) G):TabAt w' tb gb {T with gs:=T.gs.set i G}:=by
 refine⟨Zl h.wide i hG.len8, ?_, ?_,h.ne⟩
 ·have:=h.tab.mod hm (by simpa using h.ne);simpa using this
 ·show aj w' gb _ (bY (T.gs.set i G)).toArray;rw[Ow hi];exact hG.blk
theorem TabAt.cells (h:TabAt w tb gb T):w.cell? ⟨tb,0,none⟩=some (.slice (some ⟨gb,0,none⟩) T.gs.length T.gs.length)∧w.cell? ⟨tb,1,none⟩=some (.int .i64 T.live)∧w.cell? ⟨tb,2,none⟩=some (.int .i64 T.bO):=
 ⟨h.tab.cell 0,h.tab.cell 1,h.tab.cell 2⟩
theorem TabAt.Bz (h:TabAt w tb gb T)(x:Int):TabAt (w.setCell ⟨tb,1,none⟩ (.int .i64 x)) tb gb {T with live:=x}:=
 ⟨h.wide,h.tab.ak 1 _,h.IK.far (p:=⟨tb,1,none⟩) (Ne.symm h.ne) _,h.ne⟩
theorem TabAt.KV (h:TabAt w tb gb T)(x:Int):TabAt (w.setCell ⟨tb,2,none⟩ (.int .i64 x)) tb gb {T with bO:=x}:=
 ⟨h.wide,h.tab.ak 2 _,h.IK.far (p:=⟨tb,2,none⟩) (Ne.symm h.ne) _,h.ne⟩
end
def cK (tb:Nat):Value:= .pointer (some ⟨tb,0,none⟩)
theorem sD (tb gb:Nat)(T:aD)(w:World)(h:TabAt w tb gb T):Calls Tryz.prog 148 #[cK tb] w fun e w'=>e= .returned (.int .i64 (T.gs.length:Int))∧w=w':=by
 obtain⟨h0,h1,h2⟩:=h.cells;clear h;unfold cK;go_in;go_wp2;go_ret;exact⟨rfl,rfl⟩
theorem Wv (tb gb:Nat)(T:aD)(w:World)(h:TabAt w tb gb T):Calls Tryz.prog 146 #[cK tb] w fun e w'=>e= .returned (.int .i64 T.live)∧w=w':=by
 obtain⟨h0,h1,h2⟩:=h.cells;clear h;unfold cK;go_in;go_wp2;go_ret;exact⟨rfl,rfl⟩
theorem Q0 (tb gb:Nat)(T:aD)(w:World)(h:TabAt w tb gb T):Calls Tryz.prog 147 #[cK tb] w fun e w'=>e= .returned (.int .i64 T.bO)∧w=w':=by
 obtain⟨h0,h1,h2⟩:=h.cells;clear h;unfold cK;go_in;go_wp2;go_ret;exact⟨rfl,rfl⟩
theorem Ud (tb gb:Nat)(T:aD)(w:World)(h:TabAt w tb gb T)(hn:T.gs.length≤64)(hl:0≤T.live∧T.live≤1000)(ht:0≤T.bO∧T.bO≤1000):
  Calls Tryz.prog 144 #[cK tb] w fun e w'=>e= .returned (.int .i64 (7*(T.gs.length:Int)-T.live-T.bO))∧w'=w.drew:=by
 obtain⟨h0,h1,h2⟩:=h.cells;obtain⟨l0,l1⟩:=hl;obtain⟨t0,t1⟩:=ht;clear h;generalize T.gs.length=n at*;generalize T.live=a at*;generalize T.bO=b at*;unfold cK;go_in;go_upto_region 1 with fail;go_region;go_wp2;go_ret;exact⟨gu (by omega),rfl⟩
end Go.Proofs.YtjfgpnapccdnlaaGreatDoor

/-! A table's spots: what is found there, what is written. -/
namespace Go.Proofs.YtjfgpnapccdnlaaGreatDoor
set_option maxRecDepth 100000
set_option maxHeartbeats 2000000
open Go.RowKit Go.Shelf dF Go
def Ox (p:Option Addr)(s:Int):Value:= .agg #[.pointer p,.int .i64 s]
def dB (tb key hash:Nat)(ap:Option Addr)(as_:Int)(fp:Option Addr)(fs:Int):Value:= .agg #[.pointer (some ⟨tb,0,none⟩),.int .u64 (key:Int),.int .u64 (hash:Int),.pointer ap,.int .i64 as_,.pointer fp,.int .i64 fs]
def lD (T:aD)(i s:Nat):aD:={gs:=putAt T.gs i s (if dA (T.gs.getD i [])then .empty else .qg),live:=T.live-1,bO:=if dA (T.gs.getD i [])then T.bO else T.bO+1}
def jA (T:aD)(i s:Nat)(e:ay):aD:={gs:=putAt T.gs i s (.full e),live:=T.live+1,bO:=if(aG T.gs i s).iD then T.bO-1 else T.bO}
def replaceM (T:aD)(i s:Nat)(v:Nat)(e:ay):aD:={T with gs:=putAt T.gs i s (.full {e with val:=v})}
structure Small (T:aD):Prop where
 l0:0≤T.live
 l1:T.live≤1000
 t0:0≤T.bO
 t1:T.bO≤1000
 n1:T.gs.length≤64
theorem Q5 (tb gb:Nat)(T:aD)(i s:Nat)(hi:i<T.gs.length)(hs:s<8)(e:ay)(he:aG T.gs i s= .full e)(hS:Small T)(w:World)(h:TabAt w tb gb T):
  Calls Tryz.prog 317 #[cK tb,Ox (some ⟨gb,i*25,none⟩) (s:Int)] w fun x w'=>x= .returned .nilIface∧TabAt w' tb gb (lD T i s)∧Mod [tb,gb] w w':=by
 have hB:=(Below.refl w.heap.size w).alloc (Nat.le_refl _) (.cells #[.pointer (some ⟨gb,i*25,none⟩),.int .i64 (s:Int)] 200);have hV:=aj.new w 200 #[.pointer (some ⟨gb,i*25,none⟩),.int .i64 (s:Int)];obtain⟨W,hW⟩:∃W,W=w.alloc (.cells #[.pointer (some ⟨gb,i*25,none⟩),.int .i64 (s:Int)] 200):=⟨_,rfl⟩;rw[←hW]at hB hV;have nY:=h.below hB;have hGW:=nY.group i hi;have HE:=qd (Wu gb 254 (bY (T.gs.take i)) (bY (T.gs.drop (i+1))) (i*25) (T.gs.getD i []) W hGW s hs e he);have HW:=qd hW;have HB:=qd hB;obtain⟨l0,l1,t0,t1,n1⟩:=hS
 have hi0:(0:Int)≤(i:Int):=by omega
 unfold bg at HE;unfold cK Ox;clear hW h hB hGW he n1
 cases ho:dA (T.gs.getD i [])with
 |true=>
  rw[ho]at HE;simp only[Bool.not_true,if_true]at HE;have HO:=qd ho;clear ho;go_in;go_upto_region 1 with fail;rw[←HW.out];have v:=hV.c2;go_wp2_with fail;refine(HE.out).mono ?_;rintro x w1 ⟨rfl,hG1,hm1⟩;have hT1:=nY.oM i hi hm1 hG1;obtain⟨c0,c1,c2⟩:=hT1.cells;have f1:=hT1.tab.frozen 1;have f2:=hT1.tab.frozen 2;have jS:=hT1.Bz (T.live-1);have hM2:=((((Mod.of_below HB.out [tb,gb]).then (hm1.more (by simp))).sl 1 (.int .i64 (T.live-1))));have HP:=qd (And.intro jS hM2);clear jS hM2 hT1 nY hG1 hm1 hV;go_wp2;go_ret;refine⟨rfl, ?_,HP.out.2⟩;have:=HP.out.1;unfold lD putAt;rw[HO.out];exact this
 |false=>
  rw[ho]at HE;simp only[Bool.not_false,Bool.false_eq_true,if_false]at HE;have HO:=qd ho;clear ho;go_in;go_upto_region 1 with fail;rw[←HW.out];have v:=hV.c2;go_wp2_with fail;refine(HE.out).mono ?_;rintro x w1 ⟨rfl,hG1,hm1⟩;have hT1:=nY.oM i hi hm1 hG1;obtain⟨c0,c1,c2⟩:=hT1.cells;have f1:=hT1.tab.frozen 1;have f2:=hT1.tab.frozen 2;have jS:=hT1.Bz (T.live-1);have hM2:=((((Mod.of_below HB.out [tb,gb]).then (hm1.more (by simp))).sl 1 (.int .i64 (T.live-1))));have xS:=jS.KV (T.bO+1);have tL:=hM2.sl 2 (.int .i64 (T.bO+1));have HP:=qd (And.intro xS tL);clear xS tL jS hM2 hT1 nY hG1 hm1 hV;go_wp2;go_ret;refine⟨rfl, ?_,HP.out.2⟩;have:=HP.out.1;unfold lD putAt;rw[HO.out];exact this
theorem IQ (tb key hash:Nat)(ap fp:Option Addr)(fs:Int)(w:World):
  Calls Tryz.prog 91 #[dB tb key hash ap (-1) fp fs] w fun x w'=>x= .returned (.tuple #[aW ⟨0,0,0⟩,.bool false])∧Below w.heap.size w w':=by
 obtain⟨W,hW,hB,hV,hD⟩:=qP w 202 #[.pointer (some ⟨tb,0,none⟩),.int .u64 (key:Int),.int .u64 (hash:Int),.pointer ap,.int .i64 (-1),.pointer fp,.int .i64 fs] 148 #[.int .u64 0,.int .u64 0,.int .u64 0];obtain⟨d0,d1,d2⟩:=hD.c3;obtain⟨f0,f1,f2⟩:=hD.f3;obtain⟨v0,v1,v2,v3,v4,v5,v6⟩:=hV.c7;have HW:=qd hW;have HB:=qd hB;unfold dB aW;clear hW hB hV hD;go_in;go_upto_region 1 with fail;rw[←HW.out];go_wp2;refine bodyPost_ret (v:= .tuple #[.agg #[.int .u64 0,.int .u64 0,.int .u64 0],.bool false]) ?_ rfl ⟨rfl, ?_⟩
 ·simp[results,Tryz.results91,go_sem,d0,d1,d2]
 ·repeat (with_reducible first|exact HB.out|refine Below.setCell ?_ ?_ _)
  all_goals (simp;try omega)
theorem IU (tb key hash gb:Nat)(fp:Option Addr)(fs:Int)(T:aD)(i s:Nat)(hi:i<T.gs.length)(hs:s<8)(e:ay)(he:aG T.gs i s= .full e)(w:World)(h:TabAt w tb gb T):
  Calls Tryz.prog 91 #[dB tb key hash (some ⟨gb,i*25,none⟩) (s:Int) fp fs] w fun x w'=>x= .returned (.tuple #[aW e,.bool true])∧Below w.heap.size w w':=by
 obtain⟨W,hW,hB,hV,hD⟩:=qP w 202 #[.pointer (some ⟨tb,0,none⟩),.int .u64 (key:Int),.int .u64 (hash:Int),.pointer (some ⟨gb,i*25,none⟩),.int .i64 (s:Int),.pointer fp,.int .i64 fs] 148 #[.int .u64 0,.int .u64 0,.int .u64 0];obtain⟨v0,v1,v2,v3,v4,v5,v6⟩:=hV.c7;have nY:=h.below hB;have HE:=qd (Fz gb 254 (bY (T.gs.take i)) (bY (T.gs.drop (i+1))) (i*25) (T.gs.getD i []) W (nY.group i hi) s hs e he);have HW:=qd hW;have HB:=qd hB
 have hs0:¬(s:Int)<0:=by omega
 unfold bg aW at HE;unfold dB aW;clear hW hB hV h nY he;go_in;go_upto_region 1 with fail;rw[←HW.out];go_wp2_with fail;refine(HE.out).mono ?_;rintro x w1 ⟨rfl,hb⟩;have hD1:=hD.below hb hD.lt;obtain⟨d0,d1,d2⟩:=hD1.c3;obtain⟨f0,f1,f2⟩:=hD1.f3;have hB1:=qd (bP hb HB.out);clear hb hD;go_wp2;refine bodyPost_ret (v:= .tuple #[.agg #[.int .u64 (e.key:Int),.int .u64 (e.val:Int),.int .u64 (e.hash:Int)],.bool true]) ?_ rfl ⟨rfl, ?_⟩
 ·simp[results,Tryz.results91,go_sem,d0,d1,d2]
 ·repeat (with_reducible first|exact hB1.out|refine Below.setCell ?_ ?_ _)
  all_goals (simp;try omega)
theorem Dl (tb key hash gb:Nat)(fp:Option Addr)(fs:Int)(T:aD)(i s v:Nat)(hi:i<T.gs.length)(hs:s<8)(e:ay)(he:aG T.gs i s= .full e)(w:World)(h:TabAt w tb gb T):
  Calls Tryz.prog 92 #[dB tb key hash (some ⟨gb,i*25,none⟩) (s:Int) fp fs,.int .u64 (v:Int)] w fun x w'=>x= .returned .nilIface∧TabAt w' tb gb (replaceM T i s v e)∧Mod [tb,gb] w w':=by
 have hB:=(Below.refl w.heap.size w).alloc (Nat.le_refl _) (.cells #[.pointer (some ⟨tb,0,none⟩),.int .u64 (key:Int),.int .u64 (hash:Int),.pointer (some ⟨gb,i*25,none⟩),.int .i64 (s:Int),.pointer fp,.int .i64 fs] 202);have hV:=aj.new w 202 #[.pointer (some ⟨tb,0,none⟩),.int .u64 (key:Int),.int .u64 (hash:Int),.pointer (some ⟨gb,i*25,none⟩),.int .i64 (s:Int),.pointer fp,.int .i64 fs];obtain⟨W,hW⟩:∃W,W=w.alloc (.cells #[.pointer (some ⟨tb,0,none⟩),.int .u64 (key:Int),.int .u64 (hash:Int),.pointer (some ⟨gb,i*25,none⟩),.int .i64 (s:Int),.pointer fp,.int .i64 fs] 202):=⟨_,rfl⟩;rw[←hW]at hB hV;obtain⟨v0,v1,v2,v3,v4,v5,v6⟩:=hV.c7;have nY:=h.below hB;have HE:=qd (ab5 gb 254 (bY (T.gs.take i)) (bY (T.gs.drop (i+1))) (i*25) (T.gs.getD i []) W (nY.group i hi) s hs v e he);have HT:=qd nY;have HW:=qd hW;have HB:=qd hB
 have hs0:¬(s:Int)<0:=by omega
 unfold bg at HE;unfold dB;clear hW hB hV h nY he;go_in;go_upto_region 1 with fail;rw[←HW.out];go_wp2_with fail;refine(HE.out).mono ?_;rintro x w1 ⟨rfl,hG1,hm1⟩;have HP:=qd (And.intro (HT.out.oM i hi hm1 hG1) ((Mod.of_below HB.out [tb,gb]).then (hm1.more (by simp))));clear hG1 hm1;go_wp2;go_ret;exact⟨rfl,HP.out.1,HP.out.2⟩
theorem BA (tb gb:Nat)(ap:Option Addr)(T:aD)(i s:Nat)(e:ay)(hi:i<T.gs.length)(hs:s<8)(h64:e.hash<18446744073709551616)(he:(aG T.gs i s).isFull=false)(hS:Small T)(hroom:T.live+T.bO+1≤7*(T.gs.length:Int))(w:World)(h:TabAt w tb gb T):
  Calls Tryz.prog 93 #[dB tb e.key e.hash ap (-1) (some ⟨gb,i*25,none⟩) (s:Int),aW e] w fun x w'=>x= .returned .nilIface∧TabAt w' tb gb (jA T i s e)∧Mod [tb,gb] w w':=by
 obtain⟨W,hW,hB,hV,hE⟩:=qP w 202 #[.pointer (some ⟨tb,0,none⟩),.int .u64 (e.key:Int),.int .u64 (e.hash:Int),.pointer ap,.int .i64 (-1),.pointer (some ⟨gb,i*25,none⟩),.int .i64 (s:Int)] 148 #[.int .u64 (e.key:Int),.int .u64 (e.val:Int),.int .u64 (e.hash:Int)];have v:=hV.c7;obtain⟨e0,e1,e2⟩:=hE.c3;have nY:=h.below hB;have htl:=h.aU;have hgl:=h.aV;have HT:=qd (nY.below (Below.refl _ _).drew);have HE:=qd (ab4 gb 254 (bY (T.gs.take i)) (bY (T.gs.drop (i+1))) (i*25) (T.gs.getD i []) W.drew (HT.out.group i hi) s hs e h64 he);have HL:=qd (Ud tb gb T W nY hS.n1 ⟨hS.l0,hS.l1⟩ ⟨hS.t0,hS.t1⟩);have HW:=qd hW;have HB:=qd hB
 have hs0:¬(s:Int)<0:=by omega
 have hlf:¬7*(T.gs.length:Int)-T.live-T.bO<1:=by omega
 have hne:w.heap.size≠gb:=by omega
 obtain⟨l0,l1,t0,t1,n1⟩:=hS;rw[show(T.gs.getD i []).getD s .empty=aG T.gs i s from rfl]at HE;unfold bg aW at HE;unfold cK at HL;unfold dB aW;clear hW hB h nY he n1 hroom h64 hE
 cases ho:(aG T.gs i s).iD with
 |true=>
  rw[ho]at HE;have HO:=qd ho;clear ho;go_in;go_upto_region 1 with fail;rw[←HW.out];go_wp2_with fail;refine(HL.out).mono ?_;rintro x w1 ⟨rfl,rfl⟩;go_wp2_with fail;refine(HE.out).mono ?_;rintro x w1 ⟨rfl,hG1,hm1⟩;have hT1:=HT.out.oM i hi hm1 hG1;obtain⟨c0,c1,c2⟩:=hT1.cells;have f1:=hT1.tab.frozen 1;have f2:=hT1.tab.frozen 2;have Ww:=hV.drew.mod hm1 (by simpa using hne);have v:=Ww.c7;have jS:=hT1.Bz (T.live+1);have hM2:=((((Mod.of_below HB.out.drew [tb,gb]).then (hm1.more (by simp))).sl 1 (.int .i64 (T.live+1))));have xS:=jS.KV (T.bO-1);have tL:=hM2.sl 2 (.int .i64 (T.bO-1));have HP:=qd (And.intro xS tL);clear xS tL jS hM2 hT1 hG1 hm1 Ww hV;go_wp2;go_ret;refine⟨rfl, ?_,HP.out.2⟩;have:=HP.out.1;unfold jA putAt;rw[HO.out];exact this
 |false=>
  rw[ho]at HE;have HO:=qd ho;clear ho;go_in;go_upto_region 1 with fail;rw[←HW.out];go_wp2_with fail;refine(HL.out).mono ?_;rintro x w1 ⟨rfl,rfl⟩;go_wp2_with fail;refine(HE.out).mono ?_;rintro x w1 ⟨rfl,hG1,hm1⟩;have hT1:=HT.out.oM i hi hm1 hG1;obtain⟨c0,c1,c2⟩:=hT1.cells;have f1:=hT1.tab.frozen 1;have f2:=hT1.tab.frozen 2;have Ww:=hV.drew.mod hm1 (by simpa using hne);have v:=Ww.c7;have jS:=hT1.Bz (T.live+1);have hM2:=((((Mod.of_below HB.out.drew [tb,gb]).then (hm1.more (by simp))).sl 1 (.int .i64 (T.live+1))));have HP:=qd (And.intro jS hM2);clear jS hM2 hT1 hG1 hm1 Ww hV;go_wp2;go_ret;refine⟨rfl, ?_,HP.out.2⟩;have:=HP.out.1;unfold jA putAt;rw[HO.out];exact this
end Go.Proofs.YtjfgpnapccdnlaaGreatDoor
