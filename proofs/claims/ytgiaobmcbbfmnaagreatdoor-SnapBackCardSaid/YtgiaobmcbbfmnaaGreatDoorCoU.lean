/- A view's Entries by its contract. -/
import Derived.Test.YtgiaobmcbbfmnaaGreatDoorCoK
import Derived.Test.YtgiaobmcbbfmnaaGreatDoorSqT
import Derived.Test.YtgiaobmcbbfmnaaGreatDoorSq
import Derived.Test.YtgiaobmcbbfmnaaGreatDoorPlI
import Derived.Test.YtgiaobmcbbfmnaaGreatDoorTabQ
import Derived.Test.YtgiaobmcbbfmnaaGreatDoorLaneR
import Derived.BigRegion
import Derived.Test.YtgiaobmcbbfmnaaGreatDoorKit2
namespace Go.Proofs.YtgiaobmcbbfmnaaGreatDoor
set_option maxRecDepth 100000
set_option maxHeartbeats 2000000
open Go.RowKit Go.Shelf dw Go
attribute [local go_sem] Oper.semAt_some
theorem qK {w:World}{b b' e size n:Nat}{v:Value}{xs:List Value}(h:w.ownsRow b e size v n xs)(hb:b'≤b):w.ownsRow b' e size v n xs:=
 ⟨h.1,h.2.imp id fun⟨g,cap,cur,h1,h2,h3⟩=>⟨g,cap,cur,h1,Nat.le_trans hb h2,h3⟩⟩
theorem Yx:(Tryz.prog.info? 153).map (fun i=>(i.zero,i.size,i.bytes))=some (some (.agg #[.int .u64 0,.int .u64 0,.int .u64 0]),3,24):=by kernel_rfl
theorem Ck {B base n:Nat}{V V2 w4:World}{e:TypeId}{size:Nat}{v v4:Value}{xs:List Value}(_:B≤V.heap.size)(hb:Below V.heap.size V V2)(ho:V2.ownsRow base e size v n xs)(hg:kr V2 base v w4 v4):KeepsFrom B V w4:=by
 have h1:KeepsOthers V V2:=⟨hb.size,fun k o hk _=>(hb.block k (Array.getElem?_eq_some_iff.1 hk).1).trans hk⟩
 have h2:KeepsOthers V2 w4:=KeepsOthers.of_grownBy hg.kM (fun j o hj ho'=>by
  rcases ho.2 with⟨rfl,_⟩|⟨g,cap,cur,rfl,_,hh,_⟩
  ·simp[Value.ownBlock]at hj
  ·have:g=j:=by simpa[Value.ownBlock]using hj
   subst this;rw[hh]at ho'
   cases ho';rfl)
 exact(h1.trans h2).from B
theorem Yy:wm Tryz.prog 352 153 3 24:=FV Tryz.underlying352 Yx rfl (by decide) (by decide)
def uO (l:List Nat)(es:List ay):List ay:=(bZ 0 (qA l)).map fun i=>es.getD i ⟨0,0,0⟩
def atR (es:List ay)(pre:List (Fin 8)):List ay:=pre.map fun x=>es.getD x.val ⟨0,0,0⟩
theorem Ip (l:List Nat):Marks (qA l):=qY _
theorem QG (l:List Nat):(qA l).length=l.length:=by simp[qA,CZ]
theorem NV {l:List Nat}{es:List ay}{ys:List (Fin 8)}(hys:ys.map Fin.val=bZ 0 ((qA l).map dZ)):atR es ys=uO l es:=by
 rw[uY (Ip l)]at hys;unfold uO atR;rw[←hys,List.map_map];rfl
theorem Yz (es:List ay)(pre:List (Fin 8))(x:Fin 8):(atR es (pre++[x])).flatMap aN=(atR es pre).flatMap aN++aN (es.getD x.val ⟨0,0,0⟩):=by simp[atR]
theorem NW (gb:Nat)(t:TypeId)(ahead post:List Value)(go:Nat)(l:List Nat)(es:List ay)(w:World)(h:bX w gb t ahead post go l es)(hT:gL w):
  Calls Tryz.prog 241 #[aY ⟨gb,go,none⟩] w fun e w'=>∃A c,e= .returned (.slice A (uO l es).length c)∧w'.ownsRow w.heap.size 153 3 (.slice A (uO l es).length c) (uO l es).length ((uO l es).flatMap aN)∧Below w.heap.size w w':=by
 obtain⟨W,hW,hB,hV,hO⟩:=qQ w 202 #[.pointer (some ⟨gb,go,none⟩)] 352 #[.slice none 0 0];have hG:=h.below hB;have HF:=qd (SL l h.l8 h.bytes);have HW:=qd hW;have HB:=qd hB;have hg:=World.block_lt_of_cell? w _ (hT 0 (by omega));have NU:=h.l8;unfold aY;clear hW hB;refine(callsIn_wide (n:=10)).1 ?_
 have h1:1≤10:=by omega
 refine kT Tryz.func241 rfl trivial rfl ?_;simp only[Tryz.ntmps241,List.size_toArray,List.length_cons,List.length_nil,Nat.reduceAdd,Nat.reduceSub,Array.replicate_succ,Array.replicate_zero,List.push_toArray,List.append_toArray,List.nil_append,List.cons_append];refine wpIn_wide.2 ?_;go_upto_region 2 with fail;rw[←HW.out];have v0:=hV.cell 0;simp only[List.getElem?_toArray,List.getElem?_cons_zero]at v0;have hw:=hG.word;go_wp2_with fail;refine(HF.out _).mono ?_;rintro e w1 ⟨rfl,rfl⟩;go_wp2_with fail;refine(Im (qA l) _).mono ?_;rintro e w1 ⟨rfl,hw1⟩;have hb1:Below W.heap.size W w1:=hw1▸(Below.refl W.heap.size W).alloc (Nat.le_refl _) _;have hL1:aj w1 W.heap.size 31 #[.int .u64 ((w8 (qA l):Nat):Int)]:=hw1▸aj.new W _ _;clear hw1;replace v0:=aA hb1 v0;replace hw:=aA hb1 hw;go_wp2_with fail;refine(wpIn_wide (n:=10)).1 ?_;have hB1:Below w.heap.size w w1:=bQ hb1 HB.out;have hlt3:w.heap.size+1<W.heap.size:=hO.lt;have hgl:gb<w.heap.size:=h.lt;have hT1:gL w1:=fun i hi=>(hB1.cell (p:=⟨25,pJ i,none⟩) hg).trans (hT i hi);have hG1:=hG.below hb1;have y7:Boxed w1 (w.heap.size+1) 352 (.slice none 0 0):=hO.below hb1 hO.lt;have hbl:=hB1.size;have hbs:=hb1.size;clear h
 refine wpIn_rangeFunc_ownH rfl h1 (gf:=245) (lb:= #[.pointer (some ⟨W.heap.size,0,none⟩)]) rfl trivial (enters_of Tryz.func245 (by kernel_rfl) rfl)
  (Fe (10-1) (by omega) W.heap.size w1.heap.size [w.heap.size+1] (qA l) (by rw[QG];exact NU) (Ip l).bytes w1 (by omega) (by simp;omega) (Nat.le_refl _) hL1.lt (hL1.cell 0) hT1) bG (xD (Nat.le_refl _)) (Below.refl _ _) (fun _=>rfl)
  (fun pre V=>(∃v,Boxed V (w.heap.size+1) 352 v∧V.ownsRow w1.heap.size 153 3 v pre.length ((atR es pre).flatMap aN)∧True)∧aL w1.heap.size [w.heap.size+1] w1 V)
  (fun _ _ _=>False)
  (OwnFrom.and (Own.from (holdsRow_own w1.heap.size (w.heap.size+1) 352 153 3 List.length (fun pre=>(atR es pre).flatMap aN) (fun _ _=>True)) _) (qC (Nat.le_refl _) (Nat.le_refl _)))
  (fun _ _ _ _ _ hs _ _=>hs)
  ⟨⟨_,y7,⟨by simp[atR],.inl ⟨rfl,rfl⟩⟩,trivial⟩,aL.refl _ _ _⟩
  (fun x a' _=>a'={tmps:= #[.agg #[.pointer (some ⟨gb,go,none⟩)],.pointer (some ⟨w.heap.size,0,none⟩),.slice none 0 0,.pointer (some ⟨w.heap.size+1,0,none⟩),.int .i64 (x.val:Int),.pointer (some ⟨w.heap.size,0,none⟩),.pointer (some ⟨gb,go,none⟩),.pointer (some ⟨gb,go,none⟩),.pointer (some ⟨gb,go,none⟩),.int .u64 ((w8 l:Nat):Int),.int .u64 ((w8 (qA l):Nat):Int),.func (.func 245) #[] #[.pointer (some ⟨W.heap.size,0,none⟩)],.int .i64 (x.val:Int),undef,undef,undef,undef,undef,undef,undef,undef,undef,undef,undef],defers:=[]})
  (fun _ _ _ _ _ _ hs _ _=>hs) ?assign ?body ?done ?stop
 case assign=>
  rintro lp pre x V K hi hK
  gi_wp2
  exact hK _ _ (KeepsFrom.refl _ _) (aL.refl _ _ _) hi rfl
 case body=>
  rintro lp pre x a' V hl ⟨r,hr⟩ ⟨⟨v,wO,hO,-⟩,oD⟩ rfl hlt;have KC:x.val<8:=x.isLt;have adQ:gb<w1.heap.size:=hG1.lt
  have hgn:gb∉[w.heap.size+1]:=by simp;omega
  have hv:=(oD.cell (p:=⟨w.heap.size,0,none⟩) (by show w.heap.size<_;omega) (by simp)).trans v0;have hGV:bX V gb t ahead post go l es:=⟨hG1.len,hG1.l8,hG1.bytes,hG1.e8,oD.blk hG1.blk adQ hgn⟩;obtain⟨A,c,rfl⟩:=bA hO;have ho:=wO.cell;have s0:=hGV.at_ x.val 0 KC (by omega);have s1:=hGV.at_ x.val 1 KC (by omega);have s2:=hGV.at_ x.val 2 KC (by omega);rw[Nat.add_zero]at s0
  have hxi:(x.val:Int)<8:=by omega
  have hx0:(0:Int)≤(x.val:Int):=by omega
  have dW:=qd (Yz es pre x);have Dj:=oD.size;clear hGV;generalize es.getD x.val ⟨0,0,0⟩=x1 at*;simp only[aN,List.getElem?_cons_zero,List.getElem?_cons_succ]at s0 s1 s2
  gi_wp2_with fail
  refine Bq (fun(w':World)=>w'.cell? ⟨w.heap.size,0,none⟩=some (.pointer (some ⟨gb,go,none⟩))∧w'.cell? ⟨w.heap.size+1,0,none⟩=some (.slice A pre.length c)∧w'.cell? ⟨gb,go+1+x.val*3,none⟩=some (.int .u64 (x1.key:Int))∧w'.cell? ⟨gb,go+1+x.val*3+1,none⟩=some (.int .u64 (x1.val:Int))∧w'.cell? ⟨gb,go+1+x.val*3+2,none⟩=some (.int .u64 (x1.hash:Int))) [9,10] (by kernel_rfl) (by kernel_rfl) (by rintro⟨_,_,h⟩;exact h) ?_
  try (change bN _ _ _ _ _ _ _ _ _ (World.drew _))
  have hHeld:=(⟨hv,ho,s0,s1,s2⟩:_∧_∧_∧_∧_);refine vT 0 rfl ?_;refine vW 1 rfl ?_;refine vW 3 rfl ?_;refine nT 2 rfl fun K hK=> ?_;go_simp;refine kO hK ?_;clear hK K;refine vW 4 rfl ?_;refine vW 5 rfl ?_;refine vW 6 rfl ?_;refine vT 7 rfl ?_;refine nT 8 rfl fun K hK=> ?_;go_simp;have hb2:Below V.heap.size V (V.alloc (.cells #[.int .u64 (x1.key:Int),.int .u64 (x1.val:Int),.int .u64 (x1.hash:Int)] 153)).drew:=((Below.refl V.heap.size V).alloc (Nat.le_refl _) _).drew;obtain⟨V2,hV2⟩:∃V2,V2=(V.alloc (.cells #[.int .u64 (x1.key:Int),.int .u64 (x1.val:Int),.int .u64 (x1.hash:Int)] 153)).drew:=⟨_,rfl⟩;have hN2:aj V2 V.heap.size 153 #[.int .u64 (x1.key:Int),.int .u64 (x1.val:Int),.int .u64 (x1.hash:Int)]:=hV2▸(aj.new V _ _).drew;have hO2:V2.ownsRow w1.heap.size 153 3 (.slice A pre.length c) pre.length ((atR es pre).flatMap aN):=own_below hO (hV2▸hb2) (Nat.le_refl _);rw[←hV2]at hb2⊢;clear hV2;have hHeld:=(⟨aA hb2 hv,aA hb2 ho,aA hb2 s0,aA hb2 s1,aA hb2 s2⟩:_∧_∧_∧_∧_);refine kO hK ?_;clear hK K;refine nT 9 rfl fun K hK=> ?_;refine mV (by rfl) (by rfl) Yy hO2 (by rfl) (by rfl) (rA (size:=3) (m:=1) hN2 (by rfl)) (by rfl) (by omega) (by have:=hb2.size;have:=Dj;omega) ?_;intro v4 w4 dh gV;obtain⟨A4,c4,rfl⟩:=bA dh;have hox:Boxed w4 (w.heap.size+1) 352 (.slice A pre.length c):=(gV.below.block _ (by omega)).trans ((hb2.block _ wO.lt).trans wO);have o4:=hox.cell;have f4:=hox.frozen
  have hK4:aL w1.heap.size [w.heap.size+1] w1 w4:=bG oD (bG ((Mod.of_below hb2 _).sF Dj) (aL.of_below gV.below));have xR:KeepsFrom w1.heap.size V w4:=Ck Dj hb2 hO2 gV;refine kO hK ?_;clear hK K;refine nT 10 rfl fun K hK=> ?_;go_simp;refine kO hK ?_;clear hK K;refine aT (by kernel_rfl) ?_ _;have hfin:Boxed (w4.setCell ⟨w.heap.size+1,0,none⟩ (.slice A4 (pre.length+1) c4)) (w.heap.size+1) 352 (.slice A4 (pre.length+1) c4):=hox.set _
  have YA:(Value.slice A4 (pre.length+1) c4).ownBlock≠some (w.heap.size+1):=fun he=>by
   have:=(dh.lt _ he).1;omega
  have hown5:=dh.kept (grownBy_setCell' w4 (w.heap.size+1) (.slice A4 (pre.length+1) c4)) (.inr YA);have mW:=xR.trans ((KeepsOthers.setCell w4 ⟨w.heap.size+1,0,none⟩ (.slice A4 (pre.length+1) c4)).from _);have oF:aL w1.heap.size [w.heap.size+1] w1 (w4.setCell ⟨w.heap.size+1,0,none⟩ (.slice A4 (pre.length+1) c4)):=hK4.ak (.inl (by simp)) _ _;have VE:aL w1.heap.size [w.heap.size+1] V (w4.setCell ⟨w.heap.size+1,0,none⟩ (.slice A4 (pre.length+1) c4)):=(bG ((Mod.of_below hb2 _).sF Dj) (aL.of_below gV.below)).ak (.inl (by simp)) _ _;have HE:=qd (And.intro mW (And.intro VE (And.intro (And.intro hfin hown5) oF)));clear mW VE hfin hown5 oF xR hK4 dh gV hox
  gi_wp2
  exact⟨HE.out.1,HE.out.2.1,⟨_,HE.out.2.2.1.1,by rw[dW.out,List.length_append];exact HE.out.2.2.1.2⟩,HE.out.2.2.2⟩
 case done=>
  rintro D ys V hD hys ⟨⟨v,wO,hO,-⟩,oD⟩ rD;obtain⟨A,c,rfl⟩:=bA hO;have ho:=wO.cell
  have hlen:ys.length=(uO l es).length:=by rw[←NV hys];simp[atR]
  rw[NV hys,hlen]at hO;rw[hlen]at wO ho;have Ru:=(Mod.of_below hB1 [w.heap.size+1]).then oD.mod;have fD:=qd hO;clear hO;go_wp2;refine xE ⟨by simp,.inl ⟨_,_,rfl,run_takeDeferred rD, ?_⟩⟩;refine⟨.slice A (uO l es).length c, ?_,A,c,rfl, ?_, ?_⟩
  ·simp[results,Tryz.f241,go_sem]
  ·exact qK (ownsRow_putObj fD.out _ rD rfl) (by omega)
  ·exact(Ru.below (by simp) (Nat.le_refl _)).trans (belowK_b (w:=w) (Nat.le_refl _) V D _ _ (by omega) rD rfl rfl)
 case stop=>
  rintro D c pre V hD hS hI;exact hI.elim
end Go.Proofs.YtgiaobmcbbfmnaaGreatDoor

/-! A group as slots and as bytes: what the lanes tell of the slots. No program in sight. -/
namespace Go.Proofs.YtgiaobmcbbfmnaaGreatDoor.dw
set_option maxRecDepth 100000
set_option maxHeartbeats 2000000
open Go.RowKit Go.Shelf dw Go
def Slot.ent:Slot→ay
 | .full e=>e
 |_=>⟨0,0,0⟩
theorem Rv (h b:Nat):kN h b=128↔b=h:=by unfold kN;split<;>simp_all
theorem YB (x:Slot)(h:Nat)(hh:h<128):x.byte=h↔∃e,x= .full e∧e.hash % 128=h:=by
 cases x with
 |empty=>simp[Slot.byte];omega
 |qc=>simp[Slot.byte];omega
 |full e=>simp[Slot.byte]
theorem Iq (key hash:Nat)(f:Nat→ay):∀(G:kH) (s:Nat),(∀k x,G[k]?=some x→f (s+k)=x.ent)→
  (bZ s (G.map fun x=>kN (hash % 128) x.byte)).find? (fun i=>(f i).key==key)=(gF G key hash).map (s+·)
 | [],_,_=>rfl
 |x::G,s,hf=>by
  have ih:=Iq key hash f G (s+1) (fun k y hy=>by have:=hf (k+1) y (by simpa using hy);rwa [show s+(k+1)=s+1+k by omega]at this);have h0:f s=x.ent:=hf 0 x rfl
  have hm:(gF G key hash).map (s+1+·)=((gF G key hash).map (·+1)).map (s+·):=by
   cases gF G key hash with
   |none=>rfl
   |some k=>simp;omega
  rw[List.map_cons,bZ];unfold gF at ih hm⊢;rw[List.findIdx?_cons];by_cases hx:x.byte=hash % 128
  ·obtain⟨e,rfl,he⟩:=(YB x _ (by omega)).1 hx;rw[if_pos ((Rv _ _).2 hx),List.find?_cons,h0];by_cases hk:e.key=key
   ·have:Slot.isKey key hash (.full e)=true:=by simp[Slot.isKey,he,hk]
    rw[this];simp[Slot.ent,hk]
   ·have:Slot.isKey key hash (.full e)=false:=by simp[Slot.isKey,hk]
    rw[this]
    have h1:((Slot.ent (.full e)).key==key)=false:=by simpa[Slot.ent]using hk
    rw[h1];simp only[Bool.false_eq_true,if_false];rw[ih,hm]
  ·have:Slot.isKey key hash x=false:=by
    cases x with
    |empty=>rfl
    |qc=>rfl
    |full e=>simp[Slot.byte]at hx;simp[Slot.isKey,hx]
   rw[if_neg (fun h=>hx ((Rv _ _).1 h)),this,ih,hm];simp
theorem VF (x:Slot):dZ x.byte=128↔x.isFull=false:=by
 cases x with
 |empty=>simp[Slot.byte,dZ,Slot.isFull]
 |qc=>simp[Slot.byte,dZ,Slot.isFull]
 |full e=>
  have:=Nat.mod_lt e.hash (show 0<128 by omega)
  have h1:dZ (e.hash % 128)=0:=by unfold dZ;rw[if_pos this]
  show dZ (e.hash % 128)=128↔_;rw[h1];simp[Slot.isFull]
theorem Tn (G:kH):firstM ((G.map Slot.byte).map dZ)=kP G:=by
 unfold firstM kP;rw[List.map_map,List.findIdx?_map];congr 1;funext x;rw[Bool.eq_iff_iff];simp[VF]
theorem Gg (G:kH):(G.map Slot.byte).any (·==128)=dB G:=by
 unfold dB;rw[List.any_map];congr 1;funext x
 cases x with
 |empty=>rfl
 |qc=>rfl
 |full e=>simp[Slot.byte,Slot.isEmpty];omega
theorem Ir (f:Nat→ay):∀(G:kH) (s:Nat),(∀k x,G[k]?=some x→f (s+k)=x.ent)→(bZ s (G.map fun x=>dZ (255-x.byte))).map f=bJ G
 | [],_,_=>rfl
 |x::G,s,hf=>by
  have ih:=Ir f G (s+1) (fun k y hy=>by have:=hf (k+1) y (by simpa using hy);rwa [show s+(k+1)=s+1+k by omega]at this);have h0:f s=x.ent:=hf 0 x rfl
  have hg:bJ (x::G)=x.ents++bJ G:=by simp[bJ]
  rw[List.map_cons,bZ,hg]
  cases x with
  |empty=>rw[if_neg (by simp[Slot.byte,dZ]),ih];rfl
  |qc=>rw[if_neg (by simp[Slot.byte,dZ]),ih];rfl
  |full e=>
   have h1:dZ (255-e.hash % 128)=128:=by unfold dZ;rw[if_neg (by omega)]
   rw[if_pos (show dZ (255-(Slot.full e).byte)=128 from h1),List.map_cons,ih,h0];rfl
theorem y8 (G:kH)(i:Nat)(x:Slot):(G.set i x).map Slot.byte=(G.map Slot.byte).set i x.byte:=List.map_set
theorem qD (G:kH)(i:Nat)(x:Slot):(G.set i x).map Slot.ent=(G.map Slot.ent).set i x.ent:=List.map_set
theorem Br (G:kH)(i:Nat):(G.map Slot.ent).getD i ⟨0,0,0⟩=(G.getD i .empty).ent:=by
 rw[List.getD_eq_getElem?_getD,List.getD_eq_getElem?_getD,List.getElem?_map]
 cases G[i]?<;>rfl
theorem KD (G:kH)(i:Nat)(hi:i<G.length):(G.map Slot.byte).getD i 0=(G.getD i .empty).byte:=by
 rw[List.getD_eq_getElem?_getD,List.getD_eq_getElem?_getD,List.getElem?_map,List.getElem?_eq_getElem hi];rfl
theorem VG (x:Slot):x.byte<128↔x.isFull=true:=by
 cases x with
 |empty=>simp[Slot.byte,Slot.isFull]
 |qc=>simp[Slot.byte,Slot.isFull]
 |full e=>simp[Slot.byte,Slot.isFull];omega
theorem VH (x:Slot)(h:x.isFull=false):(x.byte==254)=x.iE:=by
 cases x with
 |empty=>rfl
 |qc=>rfl
 |full e=>cases h
end Go.Proofs.YtgiaobmcbbfmnaaGreatDoor.dw

/-! A group of slots in memory: its view's functions, told of slots. -/
namespace Go.Proofs.YtgiaobmcbbfmnaaGreatDoor
set_option maxRecDepth 100000
set_option maxHeartbeats 2000000
open Go.RowKit Go.Shelf dw Go
def lZ (w:World)(gb:Nat)(t:TypeId)(pre post:List Value)(go:Nat)(G:kH):Prop:=bX w gb t pre post go (G.map Slot.byte) (G.map Slot.ent)
section
variable {w w' : World} {gb go : Nat} {t : TypeId} {pre post : List Value} {G : kH}
theorem lZ.len8 (h:lZ w gb t pre post go G):G.length=8:=by have:=h.l8;simpa using this
theorem lZ.lt (h:lZ w gb t pre post go G):gb<w.heap.size:=h.blk.lt
theorem lZ.mod {S:List Nat}(h:lZ w gb t pre post go G)(hm:Mod S w w')(hg:gb∉S):lZ w' gb t pre post go G:=bX.mod h hm hg
instance {w w':World}{gb:Nat}{t:TypeId}{pre post:List Value}{go:Nat}{G:kH}:Md (lZ w gb t pre post go G) w w' (lZ w' gb t pre post go G) (fun S=>gb∉S):=⟨fun h hm hs=>lZ.mod h hm hs⟩
theorem lZ.below (h:lZ w gb t pre post go G)(hb:Below w.heap.size w w'):lZ w' gb t pre post go G:=bX.below h hb
theorem lZ.keep {n₀:Nat}{S:List Nat}(h:lZ w gb t pre post go G)(hm:aL n₀ S w w')(hn:gb<n₀)(hg:gb∉S):lZ w' gb t pre post go G:=⟨h.len,h.l8,h.bytes,h.e8,hm.blk h.blk hn hg⟩
end
section
variable (gb : Nat) (t : TypeId) (pre post : List Value) (go : Nat) (G : kH) (w : World) (h : lZ w gb t pre post go G)
include h
theorem Ae (i:Nat)(hi:i<8):(G.map Slot.byte).getD i 0<128↔(G.getD i .empty).isFull=true:=by
 rw[KD G i (by rw[h.len8];exact hi),VG]
theorem NY (key hash:Nat)(h64:hash<18446744073709551616)(hT:gL w):
  Calls Tryz.prog 145 #[aY ⟨gb,go,none⟩,.int .u64 (key:Int),.int .u64 (hash:Int)] w fun e w'=>e= .returned (.int .i64 (qG (gF G key hash)))∧Below w.heap.size w w':=by
 have:=VD gb t pre post go _ _ key hash h64 w h hT;unfold Ew at this;rw[List.map_map]at this
 have he:=Iq key hash (fun i=>(G.map Slot.ent).getD i ⟨0,0,0⟩) G 0 (fun k x hk=>by
  rw[Nat.zero_add,Br,List.getD_eq_getElem?_getD,hk];rfl)
 have hm:(gF G key hash).map (0+·)=gF G key hash:=by cases gF G key hash<;>simp
 rw[hm]at he;rw[show(bZ 0 (List.map (kN (hash % 128)∘Slot.byte) G))=bZ 0 (G.map fun x=>kN (hash % 128) x.byte)from rfl,he]at this;exact this
theorem YC (hT:gL w):Calls Tryz.prog 144 #[aY ⟨gb,go,none⟩] w fun e w'=>e= .returned (.int .i64 (qG (kP G)))∧Below w.heap.size w w':=by
 have:=Vw gb t pre post go _ _ w h hT
 rwa [Tn]at this
theorem NZ:Calls Tryz.prog 146 #[aY ⟨gb,go,none⟩] w fun e w'=>e= .returned (.bool (dB G))∧Below w.heap.size w w':=by
 have:=Df gb t pre post go _ _ w h
 rwa [Gg]at this
theorem Fg (i:Nat)(hi:i<8)(e:ay)(he:G.getD i .empty= .full e):
  Calls Tryz.prog 147 #[aY ⟨gb,go,none⟩,.int .i64 (i:Int)] w fun x w'=>x= .returned (.tuple #[aW e,.bool true])∧Below w.heap.size w w':=by
 have:=NM gb t pre post go _ _ i hi w h ((Ae gb t pre post go G w h i hi).2 (by rw[he];rfl))
 rwa [Br,he]at this
theorem KE (i:Nat)(hi:i<8)(he:(G.getD i .empty).isFull=false)(E:Nat→Addr)(hE:dP E w 5):
  Calls Tryz.prog 147 #[aY ⟨gb,go,none⟩,.int .i64 (i:Int)] w fun x w'=>x= .returned (.tuple #[aW ⟨0,0,0⟩,.bool false])∧Below w.heap.size w w':=
 Te gb t pre post go _ _ i hi w h (fun hl=>by rw[(Ae gb t pre post go G w h i hi).1 hl]at he;cases he) E hE
theorem abn (i:Nat)(hi:i<8)(e:ay)(h64:e.hash<18446744073709551616)(he:(G.getD i .empty).isFull=false):
  Calls Tryz.prog 150 #[aY ⟨gb,go,none⟩,.int .i64 (i:Int),aW e] w fun x w'=>x= .returned (.tuple #[.bool (G.getD i .empty).iE,.nilIface])∧lZ w' gb t pre post go (G.set i (.full e))∧Mod [gb] w w':=by
 have:=Yq gb t pre post go _ _ i hi e h64 w h (fun hl=>by rw[(Ae gb t pre post go G w h i hi).1 hl]at he;cases he);rw[KD G i (by rw[h.len8];exact hi),VH _ he]at this;refine this.mono fun x w' ⟨h1,h2,h3⟩=>⟨h1, ?_,h3⟩;unfold lZ;rw[y8,qD];exact h2
theorem abo (i:Nat)(hi:i<8)(v:Nat)(e:ay)(he:G.getD i .empty= .full e):
  Calls Tryz.prog 148 #[aY ⟨gb,go,none⟩,.int .i64 (i:Int),.int .u64 (v:Int)] w fun x w'=>x= .returned .nilIface∧lZ w' gb t pre post go (G.set i (.full {e with val:=v}))∧Mod [gb] w w':=by
 have NU:i<G.length:=by rw[h.len8];exact hi
 have:=Yr gb t pre post go _ _ i hi v w h ((Ae gb t pre post go G w h i hi).2 (by rw[he];rfl));rw[Br,he]at this;refine this.mono fun x w' ⟨h1,h2,h3⟩=>⟨h1, ?_,h3⟩;unfold lZ;rw[y8,qD]
 have hb:(G.map Slot.byte).set i (Slot.full {e with val:=v}).byte=G.map Slot.byte:=by
  apply List.ext_getElem?;intro k;rw[List.getElem?_set];split
  ·next hk=>
   subst hk;rw[if_pos (by simpa using NU),List.getElem?_map,List.getElem?_eq_getElem NU]
   have:G[i]= .full e:=by rw[←he,dw.getD_in NU]
   rw[this];rfl
  ·rfl
 rw[hb];exact h2
theorem VI (i:Nat)(hi:i<8)(e:ay)(he:G.getD i .empty= .full e):
  Calls Tryz.prog 314 #[aY ⟨gb,go,none⟩,.int .i64 (i:Int)] w fun x w'=>x= .returned (.tuple #[.bool !(dB G),.nilIface])∧lZ w' gb t pre post go (G.set i (if dB G then .empty else .qc))∧Mod [gb] w w':=by
 have hm:=(Ae gb t pre post go G w h i hi).2 (by rw[he];rfl)
 cases ho:dB G with
 |true=>
  refine(Ik gb t pre post go _ _ i hi w h hm (by rw[Gg];exact ho)).mono fun x w' ⟨h1,h2,h3⟩=>⟨h1, ?_,h3⟩;unfold lZ;rw[y8,qD];exact h2
 |false=>
  refine(Il gb t pre post go _ _ i hi w h hm (by rw[Gg];exact ho)).mono fun x w' ⟨h1,h2,h3⟩=>⟨h1, ?_,h3⟩;unfold lZ;rw[y8,qD];exact h2
theorem KF:Calls Tryz.prog 131 #[aY ⟨gb,go,none⟩] w fun x w'=>x= .returned undef∧lZ w' gb t pre post go (List.replicate 8 .empty)∧Mod [gb] w w':=Tf gb t pre post go _ _ w h
theorem Fh (hT:gL w):Calls Tryz.prog 241 #[aY ⟨gb,go,none⟩] w fun e w'=>∃A c,e= .returned (.slice A (bJ G).length c)∧
  w'.ownsRow w.heap.size 153 3 (.slice A (bJ G).length c) (bJ G).length ((bJ G).flatMap aN)∧Below w.heap.size w w':=by
 have:=NW gb t pre post go _ _ w h hT
 have he:uO (G.map Slot.byte) (G.map Slot.ent)=bJ G:=by
  unfold uO qA CZ;rw[List.map_map,List.map_map];exact Ir _ G 0 (fun k x hk=>by rw[Nat.zero_add,Br,List.getD_eq_getElem?_getD,hk];rfl)
 rwa [he]at this
end
end Go.Proofs.YtgiaobmcbbfmnaaGreatDoor

/-! A table in memory. -/
namespace Go.Proofs.YtgiaobmcbbfmnaaGreatDoor
set_option maxRecDepth 100000
set_option maxHeartbeats 2000000
open Go.RowKit Go.Shelf dw Go
variable {G : kH} {gs : Tab} {i : Nat} {S : List Nat}
structure aD where
 gs:Tab
 live:Int
 bO:Int
def xS (G:kH):List Value:=fB (G.map Slot.byte) (G.map Slot.ent)
def bR (gs:Tab):List Value:=gs.flatMap xS
structure TabAt (w:World)(tb gb:Nat)(T:aD):Prop where
 wide:qH T.gs
 tab:aj w tb 242 #[.slice (some ⟨gb,0,none⟩) T.gs.length T.gs.length,.int .i64 T.live,.int .i64 T.bO]
 Iu:aj w gb 246 (bR T.gs).toArray
 ne:tb≠gb
theorem Mh (h:G.length=8):(xS G).length=25:=by unfold xS fB;rw[List.length_cons,gu,List.length_map,h]
theorem Iw (h:qH gs):(bR gs).length=gs.length*25:=by
 induction gs with
 |nil=>rfl
 |cons G gs ih=>
  have h1:=Mh (h G (by simp));have h2:=ih (fun X hX=>h X (by simp[hX]));unfold bR at h2⊢;rw[List.flatMap_cons,List.length_append,h1,h2,List.length_cons];omega
theorem QH (hi:i<gs.length):bR gs=bR (gs.take i)++(xS (gs.getD i [])++bR (gs.drop (i+1))):=by
 conv=>lhs;rw[xM (d:=[]) hi]
 simp[bR]
theorem N7 (hi:i<gs.length)(G:kH):bR (gs.set i G)=bR (gs.take i)++(xS G++bR (gs.drop (i+1))):=by
 rw[ou hi];simp[bR]
theorem YD (h:qH gs)(i:Nat)(hG:G.length=8):qH (gs.set i G):=fun X hX=>by
 rcases List.mem_or_eq_of_mem_set hX with hX|rfl
 ·exact h X hX
 ·exact hG
section
variable {w w' : World} {tb gb : Nat} {T : aD}
theorem TabAt.aU (h:TabAt w tb gb T):tb<w.heap.size:=h.tab.lt
theorem TabAt.aV (h:TabAt w tb gb T):gb<w.heap.size:=h.Iu.lt
theorem TabAt.mod (h:TabAt w tb gb T)(hm:Mod S w w')(h1:tb∉S)(h2:gb∉S):TabAt w' tb gb T:=⟨h.wide,h.tab.mod hm h1,h.Iu.mod hm h2,h.ne⟩
instance {w w':World}{tb gb:Nat}{T:aD}:Md (TabAt w tb gb T) w w' (TabAt w' tb gb T) (fun S=>tb∉S∧gb∉S):=⟨fun h hm hs=>h.mod hm hs.1 hs.2⟩
theorem TabAt.below (h:TabAt w tb gb T)(hb:Below w.heap.size w w'):TabAt w' tb gb T:=h.mod (Mod.of_below hb []) (by simp) (by simp)
theorem TabAt.keep {n₀:Nat}(h:TabAt w tb gb T)(hm:aL n₀ S w w')(h1:tb<n₀)(h2:gb<n₀)(h3:tb∉S)(h4:gb∉S):TabAt w' tb gb T:=⟨h.wide,hm.blk h.tab h1 h3,hm.blk h.Iu h2 h4,h.ne⟩
theorem TabAt.group (h:TabAt w tb gb T)(i:Nat)(hi:i<T.gs.length):lZ w gb 246 (bR (T.gs.take i)) (bR (T.gs.drop (i+1))) (i*25) (T.gs.getD i []):=by
 have hw:qH (T.gs.take i):=fun X hX=>h.wide X (List.mem_of_mem_take hX);have h8:=h.wide.at_ hi;refine⟨by rw[Iw hw,List.length_take];congr 1;omega,by simpa using h8,Vh _,by simpa using h8, ?_⟩;have:=h.Iu;rw[QH hi]at this;exact this
theorem TabAt.oG (h:TabAt w tb gb T)(i:Nat)(hi:i<T.gs.length)(hm:Mod [gb] w w')(hG:lZ w' gb 246 (bR (T.gs.take i)) (bR (T.gs.drop (i+1))) (i*25) G):TabAt w' tb gb {T with gs:=T.gs.set i G}:=by
 refine⟨YD h.wide i hG.len8, ?_, ?_,h.ne⟩
 ·have:=h.tab.mod hm (by simpa using h.ne);simpa using this
 ·show aj w' gb _ (bR (T.gs.set i G)).toArray;rw[N7 hi];exact hG.blk
theorem TabAt.cells (h:TabAt w tb gb T):w.cell? ⟨tb,0,none⟩=some (.slice (some ⟨gb,0,none⟩) T.gs.length T.gs.length)∧w.cell? ⟨tb,1,none⟩=some (.int .i64 T.live)∧w.cell? ⟨tb,2,none⟩=some (.int .i64 T.bO):=
 ⟨h.tab.cell 0,h.tab.cell 1,h.tab.cell 2⟩
theorem TabAt.Bt (h:TabAt w tb gb T)(x:Int):TabAt (w.setCell ⟨tb,1,none⟩ (.int .i64 x)) tb gb {T with live:=x}:=
 ⟨h.wide,h.tab.ak 1 _,h.Iu.far (p:=⟨tb,1,none⟩) (Ne.symm h.ne) _,h.ne⟩
theorem TabAt.KG (h:TabAt w tb gb T)(x:Int):TabAt (w.setCell ⟨tb,2,none⟩ (.int .i64 x)) tb gb {T with bO:=x}:=
 ⟨h.wide,h.tab.ak 2 _,h.Iu.far (p:=⟨tb,2,none⟩) (Ne.symm h.ne) _,h.ne⟩
end
def cO (tb:Nat):Value:= .pointer (some ⟨tb,0,none⟩)
theorem sG (tb gb:Nat)(T:aD)(w:World)(h:TabAt w tb gb T):Calls Tryz.prog 153 #[cO tb] w fun e w'=>e= .returned (.int .i64 (T.gs.length:Int))∧w=w':=by
 obtain⟨h0,h1,h2⟩:=h.cells;clear h;unfold cO;go_in;go_wp2;go_ret;exact⟨rfl,rfl⟩
theorem VJ (tb gb:Nat)(T:aD)(w:World)(h:TabAt w tb gb T):Calls Tryz.prog 151 #[cO tb] w fun e w'=>e= .returned (.int .i64 T.live)∧w=w':=by
 obtain⟨h0,h1,h2⟩:=h.cells;clear h;unfold cO;go_in;go_wp2;go_ret;exact⟨rfl,rfl⟩
theorem QI (tb gb:Nat)(T:aD)(w:World)(h:TabAt w tb gb T):Calls Tryz.prog 152 #[cO tb] w fun e w'=>e= .returned (.int .i64 T.bO)∧w=w':=by
 obtain⟨h0,h1,h2⟩:=h.cells;clear h;unfold cO;go_in;go_wp2;go_ret;exact⟨rfl,rfl⟩
theorem Tp (tb gb:Nat)(T:aD)(w:World)(h:TabAt w tb gb T)(hn:T.gs.length≤64)(hl:0≤T.live∧T.live≤1000)(ht:0≤T.bO∧T.bO≤1000):
  Calls Tryz.prog 149 #[cO tb] w fun e w'=>e= .returned (.int .i64 (7*(T.gs.length:Int)-T.live-T.bO))∧w'=w.drew:=by
 obtain⟨h0,h1,h2⟩:=h.cells;obtain⟨l0,l1⟩:=hl;obtain⟨t0,t1⟩:=ht;clear h;generalize T.gs.length=n at*;generalize T.live=a at*;generalize T.bO=b at*;unfold cO;go_in;go_upto_region 1 with fail;go_region;go_wp2;go_ret;exact⟨gD (by omega),rfl⟩
end Go.Proofs.YtgiaobmcbbfmnaaGreatDoor

/-! A table's spots: what is found there, what is written. -/
namespace Go.Proofs.YtgiaobmcbbfmnaaGreatDoor
set_option maxRecDepth 100000
set_option maxHeartbeats 2000000
open Go.RowKit Go.Shelf dw Go
def N8 (p:Option Addr)(s:Int):Value:= .agg #[.pointer p,.int .i64 s]
def dD (tb key hash:Nat)(ap:Option Addr)(as_:Int)(fp:Option Addr)(fs:Int):Value:= .agg #[.pointer (some ⟨tb,0,none⟩),.int .u64 (key:Int),.int .u64 (hash:Int),.pointer ap,.int .i64 as_,.pointer fp,.int .i64 fs]
def kV (T:aD)(i s:Nat):aD:={gs:=putAt T.gs i s (if dB (T.gs.getD i [])then .empty else .qc),live:=T.live-1,bO:=if dB (T.gs.getD i [])then T.bO else T.bO+1}
def jm (T:aD)(i s:Nat)(e:ay):aD:={gs:=putAt T.gs i s (.full e),live:=T.live+1,bO:=if(aF T.gs i s).iE then T.bO-1 else T.bO}
def replaceM (T:aD)(i s:Nat)(v:Nat)(e:ay):aD:={T with gs:=putAt T.gs i s (.full {e with val:=v})}
structure Small (T:aD):Prop where
 l0:0≤T.live
 l1:T.live≤1000
 t0:0≤T.bO
 t1:T.bO≤1000
 n1:T.gs.length≤64
theorem QJ (tb gb:Nat)(T:aD)(i s:Nat)(hi:i<T.gs.length)(hs:s<8)(e:ay)(he:aF T.gs i s= .full e)(hS:Small T)(w:World)(h:TabAt w tb gb T):
  Calls Tryz.prog 311 #[cO tb,N8 (some ⟨gb,i*25,none⟩) (s:Int)] w fun x w'=>x= .returned .nilIface∧TabAt w' tb gb (kV T i s)∧Mod [tb,gb] w w':=by
 have hB:=(Below.refl w.heap.size w).alloc (Nat.le_refl _) (.cells #[.pointer (some ⟨gb,i*25,none⟩),.int .i64 (s:Int)] 204);have hV:=aj.new w 204 #[.pointer (some ⟨gb,i*25,none⟩),.int .i64 (s:Int)];obtain⟨W,hW⟩:∃W,W=w.alloc (.cells #[.pointer (some ⟨gb,i*25,none⟩),.int .i64 (s:Int)] 204):=⟨_,rfl⟩;rw[←hW]at hB hV;have nV:=h.below hB;have hGW:=nV.group i hi;have HE:=qd (VI gb 246 (bR (T.gs.take i)) (bR (T.gs.drop (i+1))) (i*25) (T.gs.getD i []) W hGW s hs e he);have HW:=qd hW;have HB:=qd hB;obtain⟨l0,l1,t0,t1,n1⟩:=hS
 have hi0:(0:Int)≤(i:Int):=by omega
 unfold aY at HE;unfold cO N8;clear hW h hB hGW he n1
 cases ho:dB (T.gs.getD i [])with
 |true=>
  rw[ho]at HE;simp only[Bool.not_true,if_true]at HE;have HO:=qd ho;clear ho;go_in;go_upto_region 1 with fail;rw[←HW.out];have v:=hV.c2;go_wp2_with fail;refine(HE.out).mono ?_;rintro x w1 ⟨rfl,hG1,hm1⟩;have hT1:=nV.oG i hi hm1 hG1;obtain⟨c0,c1,c2⟩:=hT1.cells;have f1:=hT1.tab.frozen 1;have f2:=hT1.tab.frozen 2;have jK:=hT1.Bt (T.live-1);have hM2:=((((Mod.of_below HB.out [tb,gb]).then (hm1.more (by simp))).sl 1 (.int .i64 (T.live-1))));have HP:=qd (And.intro jK hM2);clear jK hM2 hT1 nV hG1 hm1 hV;go_wp2;go_ret;refine⟨rfl, ?_,HP.out.2⟩;have:=HP.out.1;unfold kV putAt;rw[HO.out];exact this
 |false=>
  rw[ho]at HE;simp only[Bool.not_false,Bool.false_eq_true,if_false]at HE;have HO:=qd ho;clear ho;go_in;go_upto_region 1 with fail;rw[←HW.out];have v:=hV.c2;go_wp2_with fail;refine(HE.out).mono ?_;rintro x w1 ⟨rfl,hG1,hm1⟩;have hT1:=nV.oG i hi hm1 hG1;obtain⟨c0,c1,c2⟩:=hT1.cells;have f1:=hT1.tab.frozen 1;have f2:=hT1.tab.frozen 2;have jK:=hT1.Bt (T.live-1);have hM2:=((((Mod.of_below HB.out [tb,gb]).then (hm1.more (by simp))).sl 1 (.int .i64 (T.live-1))));have xU:=jK.KG (T.bO+1);have tV:=hM2.sl 2 (.int .i64 (T.bO+1));have HP:=qd (And.intro xU tV);clear xU tV jK hM2 hT1 nV hG1 hm1 hV;go_wp2;go_ret;refine⟨rfl, ?_,HP.out.2⟩;have:=HP.out.1;unfold kV putAt;rw[HO.out];exact this
theorem Iy (tb key hash:Nat)(ap fp:Option Addr)(fs:Int)(w:World):
  Calls Tryz.prog 97 #[dD tb key hash ap (-1) fp fs] w fun x w'=>x= .returned (.tuple #[aW ⟨0,0,0⟩,.bool false])∧Below w.heap.size w w':=by
 obtain⟨W,hW,hB,hV,hD⟩:=qQ w 206 #[.pointer (some ⟨tb,0,none⟩),.int .u64 (key:Int),.int .u64 (hash:Int),.pointer ap,.int .i64 (-1),.pointer fp,.int .i64 fs] 153 #[.int .u64 0,.int .u64 0,.int .u64 0];obtain⟨d0,d1,d2⟩:=hD.c3;obtain⟨f0,f1,f2⟩:=hD.f3;obtain⟨v0,v1,v2,v3,v4,v5,v6⟩:=hV.c7;have HW:=qd hW;have HB:=qd hB;unfold dD aW;clear hW hB hV hD;go_in;go_upto_region 1 with fail;rw[←HW.out];go_wp2;refine bodyPost_ret (v:= .tuple #[.agg #[.int .u64 0,.int .u64 0,.int .u64 0],.bool false]) ?_ rfl ⟨rfl, ?_⟩
 ·simp[results,Tryz.results97,go_sem,d0,d1,d2]
 ·repeat (with_reducible first|exact HB.out|refine Below.setCell ?_ ?_ _)
  all_goals (simp;try omega)
theorem Iz (tb key hash gb:Nat)(fp:Option Addr)(fs:Int)(T:aD)(i s:Nat)(hi:i<T.gs.length)(hs:s<8)(e:ay)(he:aF T.gs i s= .full e)(w:World)(h:TabAt w tb gb T):
  Calls Tryz.prog 97 #[dD tb key hash (some ⟨gb,i*25,none⟩) (s:Int) fp fs] w fun x w'=>x= .returned (.tuple #[aW e,.bool true])∧Below w.heap.size w w':=by
 obtain⟨W,hW,hB,hV,hD⟩:=qQ w 206 #[.pointer (some ⟨tb,0,none⟩),.int .u64 (key:Int),.int .u64 (hash:Int),.pointer (some ⟨gb,i*25,none⟩),.int .i64 (s:Int),.pointer fp,.int .i64 fs] 153 #[.int .u64 0,.int .u64 0,.int .u64 0];obtain⟨v0,v1,v2,v3,v4,v5,v6⟩:=hV.c7;have nV:=h.below hB;have HE:=qd (Fg gb 246 (bR (T.gs.take i)) (bR (T.gs.drop (i+1))) (i*25) (T.gs.getD i []) W (nV.group i hi) s hs e he);have HW:=qd hW;have HB:=qd hB
 have hs0:¬(s:Int)<0:=by omega
 unfold aY aW at HE;unfold dD aW;clear hW hB hV h nV he;go_in;go_upto_region 1 with fail;rw[←HW.out];go_wp2_with fail;refine(HE.out).mono ?_;rintro x w1 ⟨rfl,hb⟩;have hD1:=hD.below hb hD.lt;obtain⟨d0,d1,d2⟩:=hD1.c3;obtain⟨f0,f1,f2⟩:=hD1.f3;have hB1:=qd (bQ hb HB.out);clear hb hD;go_wp2;refine bodyPost_ret (v:= .tuple #[.agg #[.int .u64 (e.key:Int),.int .u64 (e.val:Int),.int .u64 (e.hash:Int)],.bool true]) ?_ rfl ⟨rfl, ?_⟩
 ·simp[results,Tryz.results97,go_sem,d0,d1,d2]
 ·repeat (with_reducible first|exact hB1.out|refine Below.setCell ?_ ?_ _)
  all_goals (simp;try omega)
theorem Dk (tb key hash gb:Nat)(fp:Option Addr)(fs:Int)(T:aD)(i s v:Nat)(hi:i<T.gs.length)(hs:s<8)(e:ay)(he:aF T.gs i s= .full e)(w:World)(h:TabAt w tb gb T):
  Calls Tryz.prog 98 #[dD tb key hash (some ⟨gb,i*25,none⟩) (s:Int) fp fs,.int .u64 (v:Int)] w fun x w'=>x= .returned .nilIface∧TabAt w' tb gb (replaceM T i s v e)∧Mod [tb,gb] w w':=by
 have hB:=(Below.refl w.heap.size w).alloc (Nat.le_refl _) (.cells #[.pointer (some ⟨tb,0,none⟩),.int .u64 (key:Int),.int .u64 (hash:Int),.pointer (some ⟨gb,i*25,none⟩),.int .i64 (s:Int),.pointer fp,.int .i64 fs] 206);have hV:=aj.new w 206 #[.pointer (some ⟨tb,0,none⟩),.int .u64 (key:Int),.int .u64 (hash:Int),.pointer (some ⟨gb,i*25,none⟩),.int .i64 (s:Int),.pointer fp,.int .i64 fs];obtain⟨W,hW⟩:∃W,W=w.alloc (.cells #[.pointer (some ⟨tb,0,none⟩),.int .u64 (key:Int),.int .u64 (hash:Int),.pointer (some ⟨gb,i*25,none⟩),.int .i64 (s:Int),.pointer fp,.int .i64 fs] 206):=⟨_,rfl⟩;rw[←hW]at hB hV;obtain⟨v0,v1,v2,v3,v4,v5,v6⟩:=hV.c7;have nV:=h.below hB;have HE:=qd (abo gb 246 (bR (T.gs.take i)) (bR (T.gs.drop (i+1))) (i*25) (T.gs.getD i []) W (nV.group i hi) s hs v e he);have HT:=qd nV;have HW:=qd hW;have HB:=qd hB
 have hs0:¬(s:Int)<0:=by omega
 unfold aY at HE;unfold dD;clear hW hB hV h nV he;go_in;go_upto_region 1 with fail;rw[←HW.out];go_wp2_with fail;refine(HE.out).mono ?_;rintro x w1 ⟨rfl,hG1,hm1⟩;have HP:=qd (And.intro (HT.out.oG i hi hm1 hG1) ((Mod.of_below HB.out [tb,gb]).then (hm1.more (by simp))));clear hG1 hm1;go_wp2;go_ret;exact⟨rfl,HP.out.1,HP.out.2⟩
theorem Bu (tb gb:Nat)(ap:Option Addr)(T:aD)(i s:Nat)(e:ay)(hi:i<T.gs.length)(hs:s<8)(h64:e.hash<18446744073709551616)(he:(aF T.gs i s).isFull=false)(hS:Small T)(hroom:T.live+T.bO+1≤7*(T.gs.length:Int))(w:World)(h:TabAt w tb gb T):
  Calls Tryz.prog 99 #[dD tb e.key e.hash ap (-1) (some ⟨gb,i*25,none⟩) (s:Int),aW e] w fun x w'=>x= .returned .nilIface∧TabAt w' tb gb (jm T i s e)∧Mod [tb,gb] w w':=by
 obtain⟨W,hW,hB,hV,hE⟩:=qQ w 206 #[.pointer (some ⟨tb,0,none⟩),.int .u64 (e.key:Int),.int .u64 (e.hash:Int),.pointer ap,.int .i64 (-1),.pointer (some ⟨gb,i*25,none⟩),.int .i64 (s:Int)] 153 #[.int .u64 (e.key:Int),.int .u64 (e.val:Int),.int .u64 (e.hash:Int)];have v:=hV.c7;obtain⟨e0,e1,e2⟩:=hE.c3;have nV:=h.below hB;have htl:=h.aU;have hgl:=h.aV;have HT:=qd (nV.below (Below.refl _ _).drew);have HE:=qd (abn gb 246 (bR (T.gs.take i)) (bR (T.gs.drop (i+1))) (i*25) (T.gs.getD i []) W.drew (HT.out.group i hi) s hs e h64 he);have HL:=qd (Tp tb gb T W nV hS.n1 ⟨hS.l0,hS.l1⟩ ⟨hS.t0,hS.t1⟩);have HW:=qd hW;have HB:=qd hB
 have hs0:¬(s:Int)<0:=by omega
 have hlf:¬7*(T.gs.length:Int)-T.live-T.bO<1:=by omega
 have hne:w.heap.size≠gb:=by omega
 obtain⟨l0,l1,t0,t1,n1⟩:=hS;rw[show(T.gs.getD i []).getD s .empty=aF T.gs i s from rfl]at HE;unfold aY aW at HE;unfold cO at HL;unfold dD aW;clear hW hB h nV he n1 hroom h64 hE
 cases ho:(aF T.gs i s).iE with
 |true=>
  rw[ho]at HE;have HO:=qd ho;clear ho;go_in;go_upto_region 1 with fail;rw[←HW.out];go_wp2_with fail;refine(HL.out).mono ?_;rintro x w1 ⟨rfl,rfl⟩;go_wp2_with fail;refine(HE.out).mono ?_;rintro x w1 ⟨rfl,hG1,hm1⟩;have hT1:=HT.out.oG i hi hm1 hG1;obtain⟨c0,c1,c2⟩:=hT1.cells;have f1:=hT1.tab.frozen 1;have f2:=hT1.tab.frozen 2;have VK:=hV.drew.mod hm1 (by simpa using hne);have v:=VK.c7;have jK:=hT1.Bt (T.live+1);have hM2:=((((Mod.of_below HB.out.drew [tb,gb]).then (hm1.more (by simp))).sl 1 (.int .i64 (T.live+1))));have xU:=jK.KG (T.bO-1);have tV:=hM2.sl 2 (.int .i64 (T.bO-1));have HP:=qd (And.intro xU tV);clear xU tV jK hM2 hT1 hG1 hm1 VK hV;go_wp2;go_ret;refine⟨rfl, ?_,HP.out.2⟩;have:=HP.out.1;unfold jm putAt;rw[HO.out];exact this
 |false=>
  rw[ho]at HE;have HO:=qd ho;clear ho;go_in;go_upto_region 1 with fail;rw[←HW.out];go_wp2_with fail;refine(HL.out).mono ?_;rintro x w1 ⟨rfl,rfl⟩;go_wp2_with fail;refine(HE.out).mono ?_;rintro x w1 ⟨rfl,hG1,hm1⟩;have hT1:=HT.out.oG i hi hm1 hG1;obtain⟨c0,c1,c2⟩:=hT1.cells;have f1:=hT1.tab.frozen 1;have f2:=hT1.tab.frozen 2;have VK:=hV.drew.mod hm1 (by simpa using hne);have v:=VK.c7;have jK:=hT1.Bt (T.live+1);have hM2:=((((Mod.of_below HB.out.drew [tb,gb]).then (hm1.more (by simp))).sl 1 (.int .i64 (T.live+1))));have HP:=qd (And.intro jK hM2);clear jK hM2 hT1 hG1 hm1 VK hV;go_wp2;go_ret;refine⟨rfl, ?_,HP.out.2⟩;have:=HP.out.1;unfold jm putAt;rw[HO.out];exact this
end Go.Proofs.YtgiaobmcbbfmnaaGreatDoor
