/- Package tally: New, All. No statement of the claim. -/
import Derived.Test.YtgkeameopnpinaaGreatDoorTyB
import Derived.Test.YtgkeameopnpinaaGreatDoorCoO
import Derived.Test.YtgkeameopnpinaaGreatDoorLaneP
import Derived.Test.YtgkeameopnpinaaGreatDoorHeldU
import Derived.Test.YtgkeameopnpinaaGreatDoorCoT
import Derived.Deep.CutRange
namespace Go.Proofs.YtgkeameopnpinaaGreatDoor
set_option maxRecDepth 100000
set_option maxHeartbeats 4000000
open Go.RowKit bY rZ lH
variable {W0 w : World} {E : Nat → Addr} {I K M b gv n : Nat} {G : List Nat} {R : Nat → Option Nat}
def wC (p:Nat×Nat):List Value:=[nU p.1,.float .f64 p.2]
theorem U1:(Tryz.prog.info? 43).map (fun i=>(i.zero,i.size,i.bytes))=some (some (.agg #[.int .u64 0,.float .f64 0]),2,16):=by kernel_rfl
theorem abS:vD Tryz.prog 39 43 2 16:=Gx Tryz.underlying39 U1 rfl (by decide) (by decide)
theorem U2 (l:PL):(l.flatMap wC).length=l.length*2:=by
 induction l with
 |nil=>rfl
 |cons x l ih=>rw[List.flatMap_cons,List.length_append,ih,List.length_cons];simp[wC];omega
theorem Gt {p:Nat×Nat}{q:Nat}:∀{l:PL} {i:Nat},l[i]?=some p→q<2→(l.flatMap wC)[i*2+q]?=some ((wC p)[q]!)
 | [],_,h,_=>by simp at h
 |x::l,0,h,hq=>by
  obtain rfl:=Option.some.inj h;rw[List.flatMap_cons,List.getElem?_append_left (by simp[wC];omega)]
  have:q=0∨q=1:=by omega
  rcases this with rfl|rfl<;>rfl
 |x::l,i+1,h,hq=>by
  rw[List.flatMap_cons,List.getElem?_append_right (by simp[wC];omega)];have:=Gt (l:=l) (i:=i) h hq;rw[show(i+1)*2+q-(wC x).length=i*2+q by simp[wC];omega];exact this
theorem adH (hE:Env W0 E w)(kd:Nat)(hkd:kd≤5)(hMw:Ae w)(k m i:Int)(hcf:xE k m i=true)(K M I:Nat)(hkm:(1≤K∧K≤64)∧(1≤M∧M≤192)∧k=(K:Int)∧m=(M:Int)∧i=(I:Int))(Al:1≤I∧I≤8):Calls Tryz.prog 5 #[jS k m i,nI kd] w fun y w'=>∃tb b G,y= .returned (.tuple #[pQ tb,.nilIface])∧fC W0 E kd K M I tb b G w' (fun _=>none) 0 0∧(∀q∈G,w.heap.size≤q)∧Below w.heap.size w w':=by
 obtain⟨s,hs,hne⟩:=hMw kd hkd;have hb0:=(Below.refl w.heap.size w).alloc (Nat.le_refl _) (.cells #[.int .i64 k,.int .i64 m,.int .i64 i] 32);have hX:=aj.new w 32 #[.int .i64 k,.int .i64 m,.int .i64 i];obtain⟨W,hW⟩:∃W,W=w.alloc (.cells #[.int .i64 k,.int .i64 m,.int .i64 i] 32):=⟨_,rfl⟩;rw[←hW]at hb0 hX;obtain⟨x0,x1,x2⟩:=hX.c3;have hn:=abt (lq kd) (hE.next hb0) k m i hcf K M I hkm Al;have HWd:=qd (XM kd hkd s W (aD hb0 hs));unfold jS at hn⊢;have HN:=qd hn;have HB:=qd hb0;have HW:=qd hW;have HE:=qd hE.size;clear hn hb0 hX hE hcf hkm Al hW hMw hs;go_in;go_upto_region 1 with fail;rw[←HW.out];go_wp2_with fail;refine HWd.out.mono ?_;rintro y wq ⟨rfl,rfl⟩;go_wp2_with fail;refine HN.out.mono ?_;rintro y w2 ⟨b,G,rfl,hA,hG,hb⟩;have hsz:=HB.out.size;have hs2:=hb.size;have hb2:=uf HB.out hb;have hal:=hb2.alloc (by omega) (.cells #[pQ b,nI kd] 52);have PO:=qd hal;have HH:=qd (show fC W0 E kd K M I w2.heap.size b (w2.heap.size::G) (w2.alloc (.cells #[pQ b,nI kd] 52)) (fun _=>none) 0 0 from⟨G,aj.new w2 52 #[pQ b,nI kd],hA.below ((Below.refl _ _).alloc (Nat.le_refl _) _),rfl,fun hf=>absurd (hA.fA _ hf).1 (Nat.lt_irrefl _),Nat.le_trans HE.out (by omega)⟩)
 have HF:=qd (show∀p∈w2.heap.size::G,w.heap.size≤p from fun p hp=>by
  rcases List.mem_cons.1 hp with rfl|k
  ·omega
  ·have:=hG p k;omega)
 clear hA hG hb hs2 hal HN hsz hb2 x0 x1 x2;go_wp2;refine bodyPost_ret (v:= .tuple #[pQ w2.heap.size,.nilIface]) (by simp[results,Tryz.results5,go_sem]) rfl ⟨_,b,_,rfl,HH.out,HF.out,PO.out⟩
theorem XT {H:Nat→Nat}{its:List It}(h:kg W0 E H K M I b G w R n its gv){l:PL}(ha:jG l)(hl:∀k,ny l k=R k):l.length=n:=by
 obtain⟨a,ids,eP,hR,rfl,rfl⟩:=h;have hnd:=hR.facts.2.1
 have h1:(l.map Prod.fst).Nodup:=by
  unfold List.Nodup;rw[List.pairwise_map]
  exact ha.imp fun h=>by omega
 have hp:(l.map Prod.fst).Perm (a.ents.map av.key):=(List.perm_ext_iff_of_nodup h1 hnd).2 fun k=>by
  constructor
  ·intro hk;obtain⟨p,hp,rfl⟩:=List.mem_map.1 hk;have h2:=hl p.1;rw[(jU ha).2 (show(p.1,p.2)∈l from hp)]at h2;unfold oF at h2
   cases he:look a.ents p.1 with
   |none=>rw[he]at h2;cases h2
   |some e=>obtain⟨h3,h4⟩:=mM he;exact List.mem_map.2 ⟨e,h3,h4⟩
  ·intro hk;obtain⟨e,he,rfl⟩:=List.mem_map.1 hk;have h2:=hl e.key;unfold oF at h2;rw[fP hnd he]at h2;exact List.mem_map.2 ⟨(e.key,e.val),(jU ha).1 h2,rfl⟩
 simpa using hp.length_eq
structure abT (W0:World)(E:Nat→Addr)(kd K M I tb b:Nat)(G:List Nat)(w w':World)(R:Nat→Option Nat)(n gv:Nat)(v:Value)(l:PL)(G':List Nat):Prop where
 qH:jG l
 get:∀k,ny l k=R k
 len:l.length=n
 row:w'.ownsRow w.heap.size 43 2 v l.length (l.flatMap wC)
 at_:fC W0 E kd K M I tb b G' w' R n gv
 apart:∀q∈v.ownBlock.toList,q∉G'
 sub:∀q∈G',q∈G∨w.heap.size≤q
 mod:Mod G w w'
theorem U3 {kd tb:Nat}(h:fC W0 E kd K M I tb b G w R n gv)(hI:1≤I)(hg:gv≤100000)(h6:dV E W0 6)(hv:∀k v,R k=some v→v<18446744073709551616):
  Calls Tryz.prog 8 #[pQ tb] w fun y w'=>∃v l G',y= .returned v∧abT W0 E kd K M I tb b G w w' R n (gv+1) v l G':=by
 obtain⟨F,hB,hM,rfl,hne,h0⟩:=h;have c0:=hB.cell 0;simp only[List.getElem?_toArray,List.getElem?_cons_zero]at c0;have HB:=qd hB;have eH:=qd (And.intro hne h0);have qc:=qd (aad hM hI hg (h6.below (Below.refl _ _) (Nat.le_refl _)));have HVl:=qd hv;have HMl:=qd hM.least;have hxx:=@run_callFunc_extern Tryz.prog 19 _ Extern.MathFloatBits.float64frombits Tryz.func19 (by kernel_rfl) (by kernel_rfl) (by kernel_rfl) (by kernel_rfl);have MI:=fun(n:Int) (W:World)=>show(Extern.MathFloatBits.float64frombits #[.int .u64 n]).run Tryz.prog W= .ok (.float .f64 n.toNat) W from rfl;clear hB hM hne h0 hv;go_in;go_wp2_with fail;refine qc.out.mono ?_;rintro y w1 ⟨v,l,F',rfl,hasc,hget,hrow,hap,hM1,hs1,hm1⟩;have hcount:=XT hM1 hasc hget
 have ad9:l.length≤192:=by have:=HMl.out;omega
 obtain⟨A3,c3,hv3⟩:=bE hrow;subst hv3;have lF:=qd (Reads.lK hrow);have HTo:=qd (fC.of HB.out eH.out.1 eH.out.2 ⟨F',hM1,hs1,hm1⟩);have HAs:=qd (And.intro hasc (And.intro hget hcount));have adv:=qd hm1.size;clear hasc hget hrow hap hM1 hs1 hm1 hcount qc c0;have HB0:=qd (Below.refl w1.heap.size w1);have HO0:=qd (World.ownsRow_nil w1 w1.heap.size 43 2);go_wp2;go_loopw [5,20] (fun v5 v20 wr=>∃i:Nat,i≤l.length∧v20=nI i∧Hid (wr.ownsRow w1.heap.size 43 2 v5 i ((l.take i).flatMap wC))∧Hid (Below w1.heap.size w1 wr)) (fun _ v20 _=>l.length-(intOf v20).toNat)
 case atStart=>exact⟨0,by omega,rfl,HO0,HB0⟩
 case round=>
  clear HO0 HB0;obtain⟨i,hi,rfl,HO,FP⟩:=hrel;by_cases hlt:i<l.length
  ·have hlt':(i:Int)<(l.length:Int):=by omega
   have hi0:(0:Int)≤(i:Int):=by omega
   have hwi:IntKind.i64.wrap ((i:Int)+1)=((i+1:Nat):Int):=by rw[IntKind.wrap_i64];omega
   obtain⟨p,hp⟩:∃p,l[i]?=some p:=⟨_,List.getElem?_eq_getElem hlt⟩;obtain⟨g,off,hA,hgl,hc⟩:=lF.out.2 (by omega);have r0:wr.cell? ⟨g,off+i*2,none⟩=some (nU p.1):=aD FP.out (hc (i*2+0) _ (om hp (by omega)));have r1:wr.cell? ⟨g,off+i*2+1,none⟩=some (nU p.2):=aD FP.out (hc (i*2+1) _ (om hp (by omega)));have HP:=qd hp;obtain⟨A5,c5,hv5⟩:=bE HO.out;subst hA;subst hv5;clear hc hp;go_upto_region 8 with fail;refine dA (F:=fun v=>aj v wr.heap.size 61 #[nU p.1,nU p.2]∧Below wr.heap.size wr v) ⟨aj.new wr 61 #[nU p.1,nU p.2],(Below.refl wr.heap.size wr).alloc (Nat.le_refl _) _⟩ ?_;rintro w6 ⟨nk,hb6⟩;have Y2:=own_below HO.out hb6 (Nat.le_refl _);have AB:=qd (FP.out.trans (hb6.mono FP.out.size));obtain⟨bx,hbx⟩:∃bx,bx=wr.heap.size:=⟨_,rfl⟩;rw[←hbx]at nk⊢;obtain⟨x0,x1⟩:=nk.c2;clear nk hb6 hbx HO FP r0 r1;have hbs:=AB.out.size;refine rT (fun(w':World)=>w'.cell? ⟨bx,0,none⟩=some (nU p.1)∧w'.cell? ⟨bx,1,none⟩=some (nU p.2)) [6] ?_;have hHeld:=(⟨x0,x1⟩:_∧_);refine vW 0 rfl ?_;refine vW 1 rfl ?_;refine vT 2 rfl ?_;refine vW 3 rfl ?_;refine vT 4 rfl ?_;refine nT 5 rfl fun K hK=> ?_;rw[if_pos (by kernel_rfl)];go_wp2_with fail;refine kO hK ?_;clear hK K;refine nT 6 rfl fun K hK=> ?_;rw[if_pos (by kernel_rfl)];go_wp2_with fail;refine kO hK ?_;clear hK K;refine Ai (n':=[]) (k:=6) (by simp) _ _ _ _ (by kernel_rfl) ?_;clear hHeld;have hHeld:(fun(_:World)=>True) w6:=trivial;refine nT 7 rfl fun K hK=> ?_;rw[if_pos (by kernel_rfl)];go_wp2_with fail;refine kO hK ?_;clear hK K
   have OB:=aj.new (World.drew w6) 43 #[nU p.1,.float .f64 p.2];have hb2:=(Below.refl w6.heap.size w6).drew.alloc (Nat.le_refl _) (.cells #[nU p.1,.float .f64 p.2] 43);have hO2:=own_below Y2 hb2 (Nat.le_refl _);have hs2:=hb2.size;refine nT 8 rfl fun K hK=> ?_;refine kU (by rfl) (by rfl) abS hO2 (by rfl) (by rfl) (nL (size:=2) (m:=1) OB (by rfl)) (by rfl) (by omega) (Nat.le_trans hbs hs2) ?_;intro v7 w7 FD hg7;refine kO hK ?_;clear hK K;refine vW 9 rfl ?_;refine aQ (by kernel_rfl) ?_ _
   have AJ:=qd (show w7.ownsRow w1.heap.size 43 2 v7 (i+1) ((l.take (i+1)).flatMap wC)from by
    rw[List.take_add_one,HP.out]
    simpa[wC]using FD)
   have HB7:=qd ((AB.out.trans (hb2.mono hbs)).trans hg7.below);have HM:=qd (show l.length-(i+1)<l.length-i by omega);clear FD hg7 Y2 AB OB hb2 hO2 hs2;go_wp2;go_roundw
   case measure=>simp[intOf];exact HM.out
   exact⟨i+1,by omega,rfl,AJ,HB7⟩
  ·obtain rfl:i=l.length:=by omega
   have hlt':¬(l.length:Int)<(l.length:Int):=by omega
   have hO:=HO.out;rw[List.take_of_length_le (Nat.le_refl _)]at hO;obtain⟨A5,c5,hv5⟩:=bE hO;subst hv5;obtain⟨G',a1,a2,a3⟩:=HTo.out
   have HR:=qd (show abT W0 E kd K M I tb b (tb::F) w wr R n (gv+1) (.slice A5 l.length c5) l G' from⟨HAs.out.1,HAs.out.2.1,HAs.out.2.2,Ad hO adv.out,a1.below FP.out,fun q hq hG=>by
    have h1:=(hO.lt q (by simpa using hq)).1;have h2:=(a1.fA q hG).1
    omega,a2,a3.then (Mod.of_below FP.out _)⟩)
   clear hO HO FP a1 a2 a3;go_wp2;refine bodyPost_ret (v:= .slice A5 l.length c5) (by simp[results,Tryz.results8,go_sem]) rfl ⟨_,rfl,l,G',HR.out⟩
end Go.Proofs.YtgkeameopnpinaaGreatDoor
