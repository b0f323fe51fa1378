/- Package build by its contracts. -/
import Derived.Test.YtbfpfgfgfjhpfaaGreatDoorCoAC
import Derived.Test.YtbfpfgfgfjhpfaaGreatDoorPlA
import Derived.Test.YtbfpfgfgfjhpfaaGreatDoorCoG
import Derived.Test.YtbfpfgfgfjhpfaaGreatDoorSq
namespace Go.Proofs.YtbfpfgfgfjhpfaaGreatDoor
set_option maxRecDepth 100000
set_option maxHeartbeats 4000000
open Go.RowKit dP Go
section
def cU (n:Int):bE:=⟨0,0,n⟩
def cV:bE:=⟨0,1,0⟩
def cP:bE:=⟨1,0,0⟩
def oG (b:Nat):Value:= .pointer (some ⟨b,0,none⟩)
structure gy (w:World)(bb tb gb n k:Nat):Prop where
 blk:aj w bb 315 #[.pointer (some ⟨tb,0,none⟩),.int .i64 (n:Int),.int .i64 (k:Int)]
 tab:TabAt w tb gb (dZ n k)
 le:k≤n
 pow:Pw n
 ne1:bb≠tb
 VL:bb≠gb
section
variable {w w' : World} {bb tb gb n k : Nat}
theorem gy.lt (h:gy w bb tb gb n k):bb<w.heap.size:=h.blk.lt
theorem gy.aW (h:gy w bb tb gb n k):tb<w.heap.size:=h.tab.aW
theorem gy.aX (h:gy w bb tb gb n k):gb<w.heap.size:=h.tab.aX
theorem gy.mod {S:List Nat}(h:gy w bb tb gb n k)(hm:Mod S w w')(h1:bb∉S)(h2:tb∉S)(h3:gb∉S):gy w' bb tb gb n k:=⟨h.blk.mod hm h1,h.tab.mod hm h2 h3,h.le,h.pow,h.ne1,h.VL⟩
instance {w w':World}{bb tb gb n k:Nat}:Md (gy w bb tb gb n k) w w' (gy w' bb tb gb n k) (fun S=>bb∉S∧tb∉S∧gb∉S):=⟨fun h hm hs=>h.mod hm hs.1 hs.2.1 hs.2.2⟩
theorem gy.cells (h:gy w bb tb gb n k):w.cell? ⟨bb,0,none⟩=some (.pointer (some ⟨tb,0,none⟩))∧w.cell? ⟨bb,1,none⟩=some (.int .i64 (n:Int))∧w.cell? ⟨bb,2,none⟩=some (.int .i64 (k:Int)):=
 ⟨h.blk.cell 0,h.blk.cell 1,h.blk.cell 2⟩
end
theorem VN (n:Nat)(hn:Pw n)(w:World):
  Calls Tryz.prog 193 #[.int .i64 (n:Int)] w fun e w'=>∃bb tb gb,w.heap.size≤bb∧w.heap.size≤tb∧w.heap.size≤gb∧e= .returned (.tuple #[oG bb,.nilIface])∧gy w' bb tb gb n 0∧Below w.heap.size w w':=by
 have HR:=qd (KL n hn w);unfold cZ at HR;unfold oG;go_in;go_wp2_with fail;refine(HR.out).mono ?_;rintro x w1 ⟨rfl,hT1,hb1⟩;go_wp2;refine bodyPost_ret (v:= .tuple #[.pointer (some ⟨w1.heap.size,0,none⟩),.nilIface]) (by simp[results,Tryz.results193,go_sem]) rfl ⟨w1.heap.size,w.heap.size+1,w.heap.size,hb1.size,by omega,by omega,rfl,⟨aj.new w1 _ _,hT1.below ((Below.refl _ _).alloc (Nat.le_refl _) _),Nat.zero_le _,hn, ?_, ?_⟩,hb1.alloc (by have:=hT1.aW;omega) _⟩
 ·have:=hT1.aW;omega
 ·have:=hT1.aX;omega
theorem sQ (bb n k:Nat)(p:Value)(w:World)(hk:k≤n)(hn:n≤64)(h:aj w bb 315 #[p,.int .i64 (n:Int),.int .i64 (k:Int)]):
  Calls Tryz.prog 237 #[oG bb] w fun e w'=>e= .returned (.int .i64 ((n-k:Nat):Int))∧w.drew=w':=by
 have c1:=h.cell 1;have c2:=h.cell 2;simp only[gl]at c1 c2;clear h;unfold oG;go_in;go_upto_region 1 with fail;go_region;go_wp2;go_ret;exact⟨iG (by omega),rfl⟩
theorem TB {W0:World}{E:Nat→Addr}(bb tb gb n k:Nat)(P:MP)(x:bP)(hk:k<n)(w:World)(h:gy w bb tb gb n k)(hM:aQ w P x)(hE:Env W0 E w)(hmb:P.mb≠bb)(hmt:P.mb≠tb)(jW:P.mb≠gb)(hb0:W0.heap.size≤P.mb)(hb1:W0.heap.size≤bb)(hb2:W0.heap.size≤tb)(hb3:W0.heap.size≤gb):
  Calls Tryz.prog 269 #[oG bb,.pointer (some ⟨P.mb,P.mo,none⟩)] w fun e w'=>e= .returned (.bool true)∧gy w' bb tb gb n (k+1)∧aQ w' P ((x.add cV 1).add (cU 1) 1)∧Mod [P.mb,bb,tb,gb] w w':=by
 have hml:=hM.lt;have hB0:=hE.size;have hne1:=h.ne1;have hne2:=h.VL;have hle:=h.pow.le
 have hk0:¬((n-k:Nat):Int)=0:=by omega
 have hk1:¬n≤k:=by omega
 have hk2:¬n-k=0:=by omega
 have HB:=qd (h.blk);have HT:=qd (h.tab);have ay:=qd (hE);have HM:=qd (hM);have ah:=qd (Mod.refl [P.mb,bb,tb,gb] w);have HP:=qd h.pow;clear h hM hE;unfold oG;have q1:=qJ HB.out.lt (qJ HT.out.aW (qJ HT.out.aX HM.out.lt));go_in;go_upto_region 1 with fail;have bc:=HB.out.c3;refine rT (fun(w':World)=>w'.cell? ⟨bb,0,none⟩=some (.pointer (some ⟨tb,0,none⟩))∧w'.cell? ⟨bb,1,none⟩=some (.int .i64 (n:Int))∧w'.cell? ⟨bb,2,none⟩=some (.int .i64 (k:Int))) [] ?_;have hHeld:=(⟨bc.1,bc.2.1,bc.2.2⟩:_∧_∧_);refine vW 0 rfl ?_;refine nT 1 rfl fun K hK=> ?_;go_simp;refine(sQ bb n k _ _ (by omega) hle (HB.out.mod (Mod.drewN [] w 1) (by simp))).mono ?_;rintro y w1 ⟨rfl,hw1⟩;have hm:Mod [] w w1:=hw1▸Mod.drewN [] w 2;clear hw1 bc;replace HB:=qM hm HB;replace HT:=qM hm HT;replace ay:=qM hm ay;replace HM:=qM hm HM;have z5:=(hm).size;replace ah:=qU ah hm;clear hm;have bc:=HB.out.c3;go_wp2_with fail;have hHeld:=(⟨bc.1,bc.2.1,bc.2.2⟩:_∧_∧_);refine kO hK ?_;clear hK K;refine tW 2 (some 7) (.bool false) rfl hHeld ?_
 try simp only[pt]
 refine tW 3 (some 8) (.bool false) rfl hHeld ?_
 try simp only[pt]
 refine vW 4 rfl ?_;refine vW 5 rfl ?_;refine vW 6 rfl ?_;refine vT 7 rfl ?_;refine vW 8 rfl ?_;refine vW 10 rfl ?_;refine vW 11 rfl ?_;refine vW 12 rfl ?_;refine vT 13 rfl ?_;refine nT 9 rfl fun K hK=> ?_;go_simp;refine(vY (some ⟨P.mb,P.mo,none⟩) _).mono ?_;rintro y w2 ⟨rfl,hb⟩;unfold aJ;clear bc;replace HB:=qB hb HB;replace HT:=qB hb HT;replace ay:=qB hb ay;replace HM:=qB hb HM;have z6:=(hb).size;replace ah:=qT ah hb;clear hb;have bc:=HB.out.c3;go_wp2_with fail;have hHeld:=(⟨bc.1,bc.2.1,bc.2.2⟩:_∧_∧_);refine kO hK ?_;clear hK K;refine nT 14 rfl fun K hK=> ?_;go_simp;have nJ:=qd (Mg tb gb (dZ n k) P.mb P.mt P.pre P.post P.mo x.all x.last P.m ⟨0,1,0⟩ k (by rw[show(dZ n k).gs.length=n from o9 (by omega)];exact hk) w2 HT.out HM.out hmt jW);unfold cZ aJ at nJ;refine(nJ.out).mono ?_;rintro y w3 ⟨rfl,Cw,tO,hm⟩;clear nJ HT HM bc;replace HB:=qM hm HB;replace ay:=qM hm ay;have z7:=(hm).size;replace ah:=qU ah hm;have HT:=qd (show TabAt w3 tb gb (dZ n (k+1))from by unfold dZ at Cw⊢;rw[←KM hk];exact Cw);have HM:=qd (show aQ w3 P (x.add cV 1)from tO);clear tO Cw hm;have bc:=HB.out.c3;go_wp2_with fail;have hHeld:=(⟨bc.1,bc.2.1,bc.2.2⟩:_∧_∧_);refine kO hK ?_;clear hK K;refine tW 15 (some 20) (.bool false) rfl hHeld ?_
 try simp only[pt]
 refine tW 16 (some 21) (.bool false) rfl hHeld ?_
 try simp only[pt]
 refine aY (by kernel_rfl) ?_ _;go_upto_region 3 with fail;have HU:=qd (sM P.mb P.mt P.pre P.post P.mo _ _ P.m 1 (by omega) w3 HM.out);clear HM;go_wp2_with fail;refine(HU.out).mono ?_;rintro x w4 ⟨rfl,Iu,hm⟩;clear bc;replace HB:=qM hm HB;replace ay:=qM hm ay;replace HT:=qM hm HT;have z8:=(hm).size;replace ah:=qU ah hm;clear hm;have HM:=qd (show aQ w4 P ((x.add cV 1).add (cU 1) 1)from Iu);clear Iu HU;have bc:=HB.out.c3;have bf:=HB.out.f3;go_upto_region 5 with fail;have q9:=qJ HB.out.lt (qJ HT.out.aW (qJ HT.out.aX HM.out.lt));refine Hy HB.out ?_;rintro w5 ⟨hnew,hm⟩;simp only[pt]at hnew;clear bc bf;replace ay:=qM hm ay;replace HT:=qM hm HT;replace HM:=qM hm HM;have z13:=(hm).size;replace ah:=qU ah hm;replace HB:=qd hnew;clear hnew hm;go_wp2;go_ret;exact⟨rfl,⟨HB.out,HT.out,by omega,HP.out,hne1,hne2⟩,HM.out,ah.out⟩
theorem Mh (bb tb gb n:Nat)(p:Value)(w:World)(h:gy w bb tb gb n n):
  Calls Tryz.prog 269 #[oG bb,p] w fun e w'=>e= .returned (.bool false)∧Below w.heap.size w w':=by
 have hle:=h.pow.le;unfold oG;have HL:=qd (sQ bb n n _ w.drew (Nat.le_refl n) hle h.blk.drew);rw[Nat.sub_self]at HL;unfold oG at HL;go_in;go_upto_region 1 with fail;refine rT (fun(w':World)=>True) [] ?_;have hHeld:=trivial;refine vW 0 rfl ?_;refine nT 1 rfl fun K hK=> ?_;go_simp;refine(HL.out).mono ?_;rintro y w1 ⟨rfl,rfl⟩;go_wp2_with fail;refine kO hK ?_;clear hK K;refine tW 2 (some 7) (.bool true) rfl hHeld ?_
 try simp only[pt]
 refine tW 3 (some 8) (.bool true) rfl hHeld ?_
 try simp only[pt]
 refine vU 4 rfl ?_;refine vU 5 rfl ?_;refine vU 6 rfl ?_;refine vU 7 rfl ?_;refine vU 8 rfl ?_;refine vU 9 rfl ?_;refine vU 10 rfl ?_;refine vU 11 rfl ?_;refine vU 12 rfl ?_;refine vU 13 rfl ?_;refine vU 14 rfl ?_;refine vU 15 rfl ?_;refine tW 16 (some 21) (.bool true) rfl hHeld ?_
 try simp only[pt]
 refine aY (by kernel_rfl) ?_ _;go_wp2;go_ret;exact⟨rfl,(Below.refl _ _).drew.drew⟩
theorem TD (bb tb gb n:Nat)(w:World)(h:gy w bb tb gb n n):
  Calls Tryz.prog 277 #[oG bb] w fun e w'=>e= .returned (.tuple #[cZ tb,.nilIface])∧aj w' bb 315 #[.pointer none,.int .i64 (n:Int),.int .i64 (n:Int)]∧TabAt w' tb gb (dZ n n)∧Mod [bb] w w':=by
 have hle:=h.pow.le;have HL:=qd (sQ bb n n _ w (Nat.le_refl n) hle h.blk);rw[Nat.sub_self]at HL;have hne1:=h.ne1;have hne2:=h.VL;have HB:=qd (h.blk);have HT:=qd (h.tab);have ah:=qd (Mod.refl [bb] w);clear h;unfold oG cZ;unfold oG at HL;go_in;go_upto_region 1 with fail;go_wp2_with fail;refine(HL.out).mono ?_;rintro x w1 ⟨rfl,hw1⟩;have hm:Mod [] w w1:=hw1▸Mod.drewN [] w 1;clear hw1 HL;replace HB:=qM hm HB;replace HT:=qM hm HT;have z1:=(hm).size;replace ah:=qU ah hm;clear hm;have bc:=HB.out.c3;have bf:=HB.out.f3;go_upto_region 5 with fail;have q2:=qJ HB.out.lt (qJ HT.out.aW HT.out.aX);refine Hy HB.out ?_;rintro w2 ⟨hnew,hm⟩;simp only[pt]at hnew;clear bc bf;replace HT:=qM hm HT;have z5:=(hm).size;replace ah:=qU ah hm;replace HB:=qd hnew;clear hnew hm;go_wp2;refine bodyPost_ret (v:= .tuple #[.pointer (some ⟨tb,0,none⟩),.nilIface]) (by simp[results,Tryz.results277,go_sem]) rfl ⟨rfl,HB.out,HT.out,ah.out⟩
end
section
attribute [local go_sem] Option.isNone_some Option.isNone_none
theorem jJ (w:World):Calls Tryz.prog 103 #[.nilIface] w fun e w'=>e= .returned undef∧w=w':=by
 go_in;go_wp2;go_end0;exact⟨rfl,rfl⟩
theorem DC (w:World):Calls Tryz.prog 75 #[.bool true] w fun e w'=>e= .returned undef∧w=w':=by
 go_in;go_wp2;go_end0;exact⟨rfl,rfl⟩
theorem uG (a:Int)(w:World):Calls Tryz.prog 132 #[.int .i64 a,.nilIface] w fun e w'=>e= .returned (.int .i64 a)∧w=w':=by
 have HR:=qd (jJ w);go_in;go_wp2_with fail;refine(HR.out).mono ?_;rintro x w1 ⟨rfl,rfl⟩;go_wp2;go_ret;exact⟨rfl,rfl⟩
theorem YW (a:Int)(w:World):Calls Tryz.prog 120 #[.int .u64 a,.nilIface] w fun e w'=>e= .returned (.int .u64 a)∧w=w':=by
 have HR:=qd (jJ w);go_in;go_wp2_with fail;refine(HR.out).mono ?_;rintro x w1 ⟨rfl,rfl⟩;go_wp2;go_ret;exact⟨rfl,rfl⟩
theorem YX (p:Option Addr)(w:World):Calls Tryz.prog 108 #[.pointer p,.nilIface] w fun e w'=>e= .returned (.pointer p)∧w=w':=by
 have HR:=qd (jJ w);go_in;go_wp2_with fail;refine(HR.out).mono ?_;rintro x w1 ⟨rfl,rfl⟩;go_wp2;go_ret;exact⟨rfl,rfl⟩
theorem YZ (p:Option Addr)(w:World):Calls Tryz.prog 160 #[.pointer p,.nilIface] w fun e w'=>e= .returned (.pointer p)∧w=w':=by
 have HR:=qd (jJ w);go_in;go_wp2_with fail;refine(HR.out).mono ?_;rintro x w1 ⟨rfl,rfl⟩;go_wp2;go_ret;exact⟨rfl,rfl⟩
theorem KO (p:Option Addr)(w:World):Calls Tryz.prog 162 #[.pointer p,.nilIface] w fun e w'=>e= .returned (.pointer p)∧w=w':=by
 have HR:=qd (jJ w);go_in;go_wp2_with fail;refine(HR.out).mono ?_;rintro x w1 ⟨rfl,rfl⟩;go_wp2;go_ret;exact⟨rfl,rfl⟩
theorem VO (p:Option Addr)(n c:Nat)(w:World):Calls Tryz.prog 271 #[.slice p n c,.nilIface] w fun e w'=>e= .returned (.slice p n c)∧w=w':=by
 have HR:=qd (jJ w);go_in;go_wp2_with fail;refine(HR.out).mono ?_;rintro x w1 ⟨rfl,rfl⟩;go_wp2;go_ret;exact⟨rfl,rfl⟩
theorem Y0 (p:Option Addr)(w:World):Calls Tryz.prog 276 #[.pointer p,.nilIface] w fun e w'=>e= .returned (.pointer p)∧w=w':=by
 have HR:=qd (jJ w);go_in;go_wp2_with fail;refine(HR.out).mono ?_;rintro x w1 ⟨rfl,rfl⟩;go_wp2;go_ret;exact⟨rfl,rfl⟩
theorem VP (p:Option Addr)(w:World):Calls Tryz.prog 278 #[.pointer p,.nilIface] w fun e w'=>e= .returned (.pointer p)∧w=w':=by
 have HR:=qd (jJ w);go_in;go_wp2_with fail;refine(HR.out).mono ?_;rintro x w1 ⟨rfl,rfl⟩;go_wp2;go_ret;exact⟨rfl,rfl⟩
structure fQ (w:World)(rb:Nat)(ts:List Nat):Prop where
 lt:rb<w.heap.size
 at_:∀j t,ts[j]?=some t→w.cell? ⟨rb,j,none⟩=some (.pointer (some ⟨t,0,none⟩))
theorem fQ.mod {S:List Nat}{w w':World}{rb:Nat}{ts:List Nat}(h:fQ w rb ts)(hm:Mod S w w')(hs:rb∉S):fQ w' rb ts:=
 ⟨Nat.lt_of_lt_of_le h.lt hm.size,fun j t ht=>(hm.cell_ (p:=⟨rb,j,none⟩) h.lt hs).trans (h.at_ j t ht)⟩
instance {w w':World}{rb:Nat}{ts:List Nat}:Md (fQ w rb ts) w w' (fQ w' rb ts) (fun S=>rb∉S):=⟨fun h hm hs=>h.mod hm hs⟩
def ptrs (ts:List Nat):List Value:=ts.map fun t=> .pointer (some ⟨t,0,none⟩)
theorem fQ.eO {w:World}{base n c:Nat}{e:TypeId}{A:Option Addr}{ts:List Nat}(h:w.ownsRow base e 1 (.slice A n c) n (ptrs ts))(hn:0<n):∃rb,A=some ⟨rb,0,none⟩∧base≤rb∧fQ w rb ts∧ts.length=n:=by
 have hl:=h.1;rcases h.2 with hz|⟨g,cap,cur,hv,hb,hg,h1,h2,h3,h4⟩
 ·omega
 ·cases hv;refine⟨g,rfl,hb,⟨(Array.getElem?_eq_some_iff.1 hg).1,fun j t ht=> ?_⟩,by simpa[ptrs]using hl⟩;obtain⟨hj,_⟩:=List.getElem?_eq_some_iff.1 ht
  have hjn:j<n:=by simp[ptrs]at hl;omega
  have:=h.cellAt j (by omega);rw[this];unfold ptrs;rw[List.getElem?_map,ht];rfl
theorem VQ (rb cap:Nat)(ts:List Nat)(hn:ts.length≤2)(w:World)(h:fQ w rb ts):
  Calls Tryz.prog 283 #[.slice (some ⟨rb,0,none⟩) ts.length cap,.pointer none] w fun e w'=>e= .returned (.int .i64 (-1))∧w=w':=by
 go_in;go_wp2;go_loop [5,8] (fun _ i=>∃k:Nat,k≤ts.length∧i= .int .i64 k) (fun _ i=>ts.length-(intOf i).toNat)
 case atStart=>exact⟨0,by omega,rfl⟩
 case round=>
  obtain⟨k,hk,rfl⟩:=hrel;by_cases hlt:k<ts.length
  ·have hlt':(k:Int)<(ts.length:Int):=by omega
   have hk0:(0:Int)≤(k:Int):=by omega
   have hc:=h.at_ k ts[k] (List.getElem?_eq_getElem hlt);generalize ts[k]=tk at hc
   have hnn:(Go.binOp .eql 178 (.pointer none) (.pointer (some (⟨tk,0,none⟩:Addr)))).run Tryz.prog w= .ok (.bool false) w:=by first|rfl|kernel_rfl|simp[Go.binOp,go_sem]
   go_wp2;go_round
   case rel=>exact⟨k+1,by omega,by go_num⟩
   case measure=>simp[intOf];omega
  ·have hlt':¬(k:Int)<(ts.length:Int):=by omega
   go_wp2;go_ret;exact⟨rfl,rfl⟩
theorem contains_nil (rb cap:Nat)(ts:List Nat)(hn:ts.length≤2)(w:World)(h:fQ w rb ts):
  Calls Tryz.prog 281 #[.slice (some ⟨rb,0,none⟩) ts.length cap,.pointer none] w fun e w'=>e= .returned (.bool false)∧w=w':=by
 have HI:=qd (VQ rb cap ts hn w h);go_in;go_wp2_with fail;refine(HI.out).mono ?_;rintro x w1 ⟨rfl,rfl⟩;go_wp2;go_ret;exact⟨rfl,rfl⟩
end
section
variable {w : World} {cap depth eb next tb vb : Nat} {ts : List Nat}
def dG (k depth hash:Nat):Nat:=if k=1 then 0 else uO hash depth
structure mh (w:World)(eb tb vb cap:Nat)(ts:List Nat)(depth next:Nat):Prop where
 blk:aj w eb 308 #[.pointer (some ⟨tb,0,none⟩),.slice (some ⟨vb,0,none⟩) ts.length cap,.int .i64 (depth:Int),.int .i64 (next:Int)]
 row:fQ w vb ts
theorem mh.mod {S:List Nat}{w':World}(h:mh w eb tb vb cap ts depth next)(hm:Mod S w w')(h1:eb∉S)(h2:vb∉S):mh w' eb tb vb cap ts depth next:=⟨h.blk.mod hm h1,h.row.mod hm h2⟩
instance {w w':World}{eb tb vb cap:Nat}{ts:List Nat}{depth next:Nat}:Md (mh w eb tb vb cap ts depth next) w w' (mh w' eb tb vb cap ts depth next) (fun S=>eb∉S∧vb∉S):=⟨fun h hm hs=>h.mod hm hs.1 hs.2⟩
theorem mh.lt (h:mh w eb tb vb cap ts depth next):eb<w.heap.size:=h.blk.lt
theorem mh.qh (h:mh w eb tb vb cap ts depth next):vb<w.heap.size:=h.row.lt
theorem Rp {a b:Nat}(h:b≤a):(a:Int)-(b:Int)=((a-b:Nat):Int):=by omega
theorem KP (eb tb gb vb cap:Nat)(ts:List Nat)(depth next:Nat)(T:aC)(w:World)(h:mh w eb tb vb cap ts depth next)(ht:TabAt w tb gb T)(hle:next≤T.gs.length)(h64:T.gs.length≤64):
  Calls Tryz.prog 236 #[.pointer (some ⟨eb,0,none⟩)] w fun e w'=>e= .returned (.int .i64 ((T.gs.length-next:Nat):Int))∧w.drew=w':=by
 obtain⟨uf,tc1,tc2⟩:=ht.cells;obtain⟨n,hn⟩:∃n,n=T.gs.length:=⟨_,rfl⟩;have HG:=qd (sN tb gb T w.drew (ht.below (Below.refl _ _).drew));rw[←hn]at HG hle h64⊢;unfold cZ at HG;have HE:=qd (h);have ah:=qd (Mod.refl [] w);have rW:=qd h.blk;clear h ht;have ec:=rW.out.c4
 have hwr:IntKind.i64.wrap ((n:Int)-(next:Int))=((n-next:Nat):Int):=by rw[Rp hle];rw[IntKind.wrap_i64];omega
 clear uf tc1 tc2 hn;go_in;go_upto_region 1 with fail;refine rT (fun(w':World)=>w'.cell? ⟨eb,0,none⟩=some (.pointer (some ⟨tb,0,none⟩))∧w'.cell? ⟨eb,3,none⟩=some (.int .i64 (next:Int))) [] ?_;have hHeld:=(⟨ec.1,ec.2.2.2⟩:_∧_);refine vW 0 rfl ?_;refine vW 1 rfl ?_;refine vW 2 rfl ?_;refine vT 3 rfl ?_;refine vW 5 rfl ?_;refine vW 6 rfl ?_;refine vW 7 rfl ?_;refine vT 8 rfl ?_;refine nT 4 rfl fun K hK=> ?_;go_simp;refine(HG.out).mono ?_;rintro y w1 ⟨rfl,rfl⟩;go_wp2_with fail;have hHeld:=(⟨ec.1,ec.2.2.2⟩:_∧_);refine kO hK ?_;clear hK K;refine vW 9 rfl ?_;refine vW 10 rfl ?_;refine aY (by kernel_rfl) ?_ _;go_wp2;go_ret;exact⟨rfl,rfl⟩
theorem FD (eb tb vb cap:Nat)(ts:List Nat)(depth next hash t:Nat)(hk:1≤ts.length∧ts.length≤2)(hd:depth≤15)(h64:hash<18446744073709551616)(ht:ts[dG ts.length depth hash]?=some t)(w:World)(h:mh w eb tb vb cap ts depth next):
  Calls Tryz.prog 179 #[.pointer (some ⟨eb,0,none⟩),.int .u64 (hash:Int)] w fun e w'=>e= .returned (cZ t)∧Below w.heap.size w w':=by
 obtain⟨ec0,VR,ec2,ec3⟩:=h.blk.c4;have hr:=h.row.at_ _ _ ht;have HT:=qd ht;unfold cZ;clear h ht;by_cases h1:ts.length=1
 ·have hs:dG ts.length depth hash=0:=by unfold dG;rw[if_pos h1]
  rw[hs]at hr;rw[h1]at VR;go_in;go_wp2;go_ret;exact⟨rfl,Below.refl _ _⟩
 ·have h2:ts.length=2:=by omega
  have hs:dG ts.length depth hash=uO hash depth:=by unfold dG;rw[if_neg h1]
  rw[hs]at hr;rw[h2]at VR;clear hs h1 HT;have hbl:uO hash depth<2:=Nat.mod_lt _ (by omega);have HBt:=qd (Va hash depth h64 hd w.drew);generalize uO hash depth=sd at*
  have hsd:(sd:Int)<2:=by omega
  have afM:(0:Int)≤(sd:Int):=by omega
  have NZ:=qd (uG (sd:Int) w.drew);go_in;go_upto_region 3 with fail;refine rT (fun(w':World)=>w'.cell? ⟨eb,1,none⟩=some (.slice (some ⟨vb,0,none⟩) 2 cap)∧w'.cell? ⟨eb,2,none⟩=some (.int .i64 (depth:Int))∧w'.cell? ⟨vb,sd,none⟩=some (.pointer (some ⟨t,0,none⟩))) [] ?_;have hHeld:=(⟨VR,ec2,hr⟩:_∧_∧_);refine vW 0 rfl ?_;refine vW 1 rfl ?_;refine vW 2 rfl ?_;refine vT 3 rfl ?_;refine vW 4 rfl ?_;refine vW 5 rfl ?_;refine vW 6 rfl ?_;refine vW 7 rfl ?_;refine vT 8 rfl ?_;refine nT 9 rfl fun K hK=> ?_;go_simp;refine(HBt.out).mono ?_;rintro y w1 ⟨rfl,rfl⟩;go_wp2_with fail;have hHeld:=(⟨VR,ec2,hr⟩:_∧_∧_);refine kO hK ?_;clear hK K;refine vW 10 rfl ?_;refine vW 11 rfl ?_;refine nT 12 rfl fun K hK=> ?_;go_simp;refine(NZ.out).mono ?_;rintro y w1 ⟨rfl,rfl⟩;go_wp2_with fail;have hHeld:=(⟨VR,ec2,hr⟩:_∧_∧_);refine kO hK ?_;clear hK K;refine vW 13 rfl ?_;refine vT 14 rfl ?_;refine vW 15 rfl ?_;refine aY (by kernel_rfl) ?_ _;go_wp2;go_ret;exact⟨rfl,(Below.refl _ _).drew⟩
end
section
variable {j k : Nat} {e : av} {bs : List (Nat × Nat)} {S : List Nat} {w w' : World} {Ts : List aC}
def DF (T:aC)(e:av):aC:=match (aH T.gs e.key e.hash).2.1 with
 |some x=>jM T x.1 x.2 e
 |none=>T
structure N7 (T:aC)(e:av):Prop where
 ok:mO T
 h64:e.hash<18446744073709551616
 none_:(aH T.gs e.key e.hash).1=none
 free:∃i s,(aH T.gs e.key e.hash).2.1=some (i,s)
 room:T.live+T.bW+1≤7*(T.gs.length:Int)
def noT:aC:=⟨[],0,0⟩
def uH (k d:Nat)(st:bP×List aC)(e:av):bP×List aC:=
 (st.1.add cV (aH (st.2.getD (dG k d e.hash) noT).gs e.key e.hash).2.2,st.2.set (dG k d e.hash) (DF (st.2.getD (dG k d e.hash) noT) e))
def fA (k d:Nat)(st:bP×List aC)(es:List av):bP×List aC:=es.foldl (uH k d) st
def Fits (k d:Nat):List aC→List av→Prop
 |_,[]=>True
 |Ts,e::es=>(∃T,Ts[dG k d e.hash]?=some T∧N7 T e)∧Fits k d (Ts.set (dG k d e.hash) (DF (Ts.getD (dG k d e.hash) noT) e)) es
theorem TF (k d:Nat)(st:bP×List aC){es:List av}(h:es[j]?=some e):fA k d st (es.take (j+1))=uH k d (fA k d st (es.take j)) e:=by
 unfold fA;rw[rV h,List.foldl_append];rfl
theorem Rq {d:Nat}:∀{es:List av} {x:bP} {Ts:List aC} {j:Nat} {e:av},Fits k d Ts es→es[j]?=some e→∃T,(fA k d (x,Ts) (es.take j)).2[dG k d e.hash]?=some T∧N7 T e
 | [],_,_,_,_,_,h=>by simp at h
 |e0::es,x,Ts,0,e,hf,h=>by
  simp at h;subst h;exact hf.1
 |e0::es,x,Ts,j+1,e,hf,h=>by
  rw[List.getElem?_cons_succ]at h;have:=Rq (x:=x.add cV (aH (Ts.getD (dG k d e0.hash) noT).gs e0.key e0.hash).2.2) hf.2 h;exact this
structure iJ (w:World)(bs:List (Nat×Nat))(Ts:List aC):Prop where
 len:bs.length=Ts.length
 at_:∀(j:Nat) (b:Nat×Nat) (T:aC),bs[j]?=some b→Ts[j]?=some T→TabAt w b.1 b.2 T
 ne:∀(i j:Nat) (b c:Nat×Nat),bs[i]?=some b→bs[j]?=some c→i≠j→b.1≠c.1∧b.1≠c.2∧b.2≠c.1∧b.2≠c.2
def gI (bs:List (Nat×Nat)):List Nat:=bs.flatMap fun b=> [b.1,b.2]
theorem dV:k∈gI bs↔∃b∈bs,k=b.1∨k=b.2:=by simp[gI]
theorem iJ.mod (h:iJ w bs Ts)(hm:Mod S w w')(hs:∀b∈bs,b.1∉S∧b.2∉S):iJ w' bs Ts:=
 ⟨h.len,fun j b T hb hT=>(h.at_ j b T hb hT).mod hm (hs b (List.mem_of_getElem? hb)).1 (hs b (List.mem_of_getElem? hb)).2,h.ne⟩
theorem iJ.ak (h:iJ w bs Ts){b:Nat×Nat}{T':aC}(hb:bs[j]?=some b)(hT:TabAt w' b.1 b.2 T')(hm:Mod S w w')(hs:∀k∈S,k=b.1∨k=b.2∨∀c∈bs,k≠c.1∧k≠c.2):iJ w' bs (Ts.set j T'):=by
 refine⟨by rw[List.length_set];exact h.len,fun i c T hc kD=> ?_,h.ne⟩;rw[List.getElem?_set]at kD;by_cases hij:j=i
 ·subst hij;rw[hb]at hc;cases hc;obtain⟨hlt,_⟩:=List.getElem?_eq_some_iff.1 hb;rw[if_pos rfl,if_pos (by rw[←h.len];exact hlt)]at kD;cases kD;exact hT
 ·rw[if_neg hij]at kD;have hne:=h.ne j i b c hb hc hij;have hcm:=List.mem_of_getElem? hc;refine(h.at_ i c T hc kD).mod hm (fun hk=> ?_) (fun hk=> ?_)
  ·rcases hs _ hk with e|e|e
   ·exact hne.1 e.symm
   ·exact hne.2.2.1 e.symm
   ·exact(e c hcm).1 rfl
  ·rcases hs _ hk with e|e|e
   ·exact hne.2.1 e.symm
   ·exact hne.2.2.2 e.symm
   ·exact(e c hcm).2 rfl
end
theorem TH {W0:World}{E:Nat→Addr}(tb gb:Nat)(T:aC)(P:MP)(x:bP)(c:bE)(g:Nat)(hg:g<T.gs.length)(hok:mO T)(w:World)(h:TabAt w tb gb T)(hM:aQ w P x)(hE:Env W0 E w)(hmt:P.mb≠tb)(jW:P.mb≠gb)(hb0:W0.heap.size≤P.mb)(hb1:W0.heap.size≤tb)(hb2:W0.heap.size≤gb):
  Calls Tryz.prog 272 #[cZ tb,aJ (some ⟨P.mb,P.mo,none⟩) c,.int .i64 (g:Int)] w fun e w'=>∃A cc,e= .returned (.tuple #[.slice A (bR (T.gs.getD g [])).length cc,.nilIface])∧
   w'.ownsRow w.heap.size 76 3 (.slice A (bR (T.gs.getD g [])).length cc) (bR (T.gs.getD g [])).length ((bR (T.gs.getD g [])).flatMap aG)∧TabAt w' tb gb (takeN T g 8)∧aQ w' P (x.add c 1)∧Mod [P.mb,tb,gb] w w':=by
 have hB:=(Below.refl w.heap.size w).alloc (Nat.le_refl _) (.cells #[.pointer (some ⟨P.mb,P.mo,none⟩),.int .i64 c.p,.int .i64 c.v,.int .i64 c.u] 154);have hL:=aj.new w 154 #[.pointer (some ⟨P.mb,P.mo,none⟩),.int .i64 c.p,.int .i64 c.v,.int .i64 c.u];obtain⟨W,hW⟩:∃W,W=w.alloc (.cells #[.pointer (some ⟨P.mb,P.mo,none⟩),.int .i64 c.p,.int .i64 c.v,.int .i64 c.u] 154):=⟨_,rfl⟩;rw[←hW]at hB hL;obtain⟨Kz,KA,KC,KD⟩:=hL.c4;have hml:=hM.lt;have htl:=h.aW;have hgl:=h.aX;have hB0:=hE.size;have HW:=qd hW
 have hg0:(g:Int)<(T.gs.length:Int):=by omega
 have tZ:=qd (Iy tb gb T P.mb P.mt P.pre P.post P.mo x.all x.last P.m c g hg W (h.below hB) (hM.below hB) hmt jW);have xV:=qd hok;unfold cZ aJ bC at tZ;unfold cZ aJ;have HT:=qd (h.below hB);have ay:=qd (hE.next hB);have ah:=qd (Mod.of_below hB [P.mb,tb,gb]);clear hW hB h hM hL hE hok;generalize hGn:T.gs.getD g []=G;go_in;go_upto_region 1 with fail;rw[←HW.out];go_wp2_with fail;refine(tZ.out).mono ?_;rintro x w1 ⟨rfl,hM1,hm⟩;clear Kz KA KC KD;replace HT:=qM hm HT;replace ay:=qM hm ay;replace ah:=qU ah hm;clear hm;have HM:=qd (show aQ w1 P (x.add c 1)from hM1);clear hM1;go_upto_region 4 with fail;have q1:=qJ HT.out.aW (qJ HT.out.aX (qJ HM.out.lt ah.out.size));refine eB 195 #[.pointer (some ⟨gb,g*25,none⟩)] ?_;rintro w2 ⟨hnew,hb⟩;obtain⟨vb,hvb⟩:∃vb,vb=w1.heap.size:=⟨_,rfl⟩;rw[←hvb]at hnew⊢
 replace hvb:w1.heap.size≤vb:=by omega
 replace HT:=qB hb HT;replace ay:=qB hb ay;replace HM:=qB hb HM;replace ah:=qT ah hb;have HV:=qd (hnew);clear hnew hb;have z5:=ah.out.size;have Aq:=HV.out.cell 0;simp only[List.getElem?_toArray,List.getElem?_cons_zero]at Aq;have dU:=qd (Fy gb 239 _ _ (g*25) _ w2 (HT.out.group g hg) ay.out.tz);rw[hGn]at dU;unfold bC at dU;go_wp2_with fail;refine(dU.out).mono ?_;rintro x w3 ⟨A,cc,rfl,hO,hb⟩;clear Aq;replace HT:=qB hb HT;replace ay:=qB hb ay;replace HM:=qB hb HM;replace HV:=qB hb HV;replace ah:=qT ah hb;clear hb;have hwl:=ah.out.size;have HO:=qd (hO);clear hO;have q6:=qJ HT.out.aW (qJ HT.out.aX (qJ HM.out.lt HV.out.lt));clear HW;go_wp2;go_loopw [11,12,13,26] (fun _ _ _ i wr=>∃k:Nat,k≤8∧i= .int .i64 k∧TabAt wr tb gb (takeN T g k)∧aQ wr P (x.add c 1)∧Env W0 E wr∧wr.ownsRow w2.heap.size 76 3 (.slice A (bR G).length cc) (bR G).length ((bR G).flatMap aG)∧aj wr vb 195 #[.pointer (some ⟨gb,g*25,none⟩)]∧Mod [P.mb,tb,gb] w wr) (fun _ _ _ i _=>8-(intOf i).toNat)
 case atStart=>exact⟨0,by omega,rfl,HT.out,HM.out,ay.out,HO.out,HV.out,ah.out⟩
 case round=>
  clear HT HM ay HO HV ah;obtain⟨k,hk,rfl,hT,hM,hE,hO,hV,hm⟩:=hrel;by_cases hlt:k<8
  ·have hlt':(k:Int)<8:=by omega
   have HT:=qd (hT);have HM:=qd (hM);have ay:=qd (hE);have HO:=qd (hO);have HV:=qd (hV);have ah:=qd (hm);clear hT hM hE hO hV hm
   have hgk:g<(takeN T g k).gs.length:=by rw[sP];exact hg
   have HG:=qd (HT.out.group g hgk);have HOe:=qd (xV.out.tkN g k);have Aq:=HV.out.cell 0;simp only[List.getElem?_toArray,List.getElem?_cons_zero]at Aq
   cases hsl:aF (takeN T g k).gs g k with
   |full e=>
    have kX:=qd (Fx gb 239 _ _ (g*25) _ wr HG.out k hlt e (by unfold aF at hsl;exact hsl));unfold bC aR at kX;clear HG;go_wp2_with fail;refine(kX.out).mono ?_;rintro x w4 ⟨rfl,hb⟩;clear Aq;replace HT:=qB hb HT;replace HM:=qB hb HM;replace ay:=qB hb ay;replace HO:=qB hb HO;replace HV:=qB hb HV;replace ah:=qT ah hb;clear hb kX;go_upto_region 10 with fail;have q1:=qJ HT.out.aW (qJ HT.out.aX (qJ HM.out.lt (qJ HV.out.lt ah.out.size)));refine eB 76 #[.int .u64 (e.key:Int),.int .u64 (e.val:Int),.int .u64 (e.hash:Int)] ?_;rintro w5 ⟨hnew,hb⟩;replace HT:=qB hb HT;replace HM:=qB hb HM;replace ay:=qB hb ay;replace HO:=qB hb HO;replace HV:=qB hb HV;replace ah:=qT ah hb;have HD:=qd (hnew);clear hnew hb;have Aq:=HV.out.cell 0;simp only[List.getElem?_toArray,List.getElem?_cons_zero]at Aq;have HEr:=qd (Qr tb gb (takeN T g k) g k hgk hlt e hsl HOe.out.small w5 HT.out);unfold cZ NT at HEr;clear HT HD;go_wp2_with fail;refine(HEr.out).mono ?_;rintro x w6 ⟨rfl,hT6,hm⟩;clear Aq;replace HM:=qM hm HM;replace ay:=qM hm ay;replace HO:=qM hm HO;replace HV:=qM hm HV;replace ah:=qU ah hm;clear hm;have HT:=qd (hT6);clear hT6;have gT:=qd (show takeN T g (k+1)=lN (takeN T g k) g k from by show gK _ _ _=_;unfold gK;rw[hsl];rfl);clear hsl;go_wp2;go_roundw
    case rel=>exact⟨k+1,by omega,by go_num,by rw[gT.out];exact HT.out,HM.out,ay.out,HO.out,HV.out,ah.out⟩
    case measure=>simp[intOf];omega
   |empty=>
    have kX:=qd (Kv gb 239 _ _ (g*25) _ wr HG.out k hlt (by unfold aF at hsl;rw[hsl];rfl) E (ay.out.errs.at_ 5 (by omega) (by omega)));unfold bC aR at kX;clear HG;go_wp2_with fail;refine(kX.out).mono ?_;rintro x w4 ⟨rfl,hb⟩;clear Aq;replace HT:=qB hb HT;replace HM:=qB hb HM;replace ay:=qB hb ay;replace HO:=qB hb HO;replace HV:=qB hb HV;replace ah:=qT ah hb;clear hb kX;have gT:=qd (show takeN T g (k+1)=takeN T g k from by show gK _ _ _=_;unfold gK;rw[hsl];rfl);clear hsl;go_upto_region 11 with fail;have q1:=qJ HT.out.aW (qJ HT.out.aX (qJ HM.out.lt (qJ HV.out.lt ah.out.size)));refine eB 76 #[.int .u64 0,.int .u64 0,.int .u64 0] ?_;rintro w5 ⟨hnew,hb⟩;replace HT:=qB hb HT;replace HM:=qB hb HM;replace ay:=qB hb ay;replace HO:=qB hb HO;replace HV:=qB hb HV;replace ah:=qT ah hb;have HD:=qd (hnew);clear hnew hb;go_wp2;go_roundw
    case rel=>exact⟨k+1,by omega,by go_num,by rw[gT.out];exact HT.out,HM.out,ay.out,HO.out,HV.out,ah.out⟩
    case measure=>simp[intOf];omega
   |qp=>
    have kX:=qd (Kv gb 239 _ _ (g*25) _ wr HG.out k hlt (by unfold aF at hsl;rw[hsl];rfl) E (ay.out.errs.at_ 5 (by omega) (by omega)));unfold bC aR at kX;clear HG;go_wp2_with fail;refine(kX.out).mono ?_;rintro x w4 ⟨rfl,hb⟩;clear Aq;replace HT:=qB hb HT;replace HM:=qB hb HM;replace ay:=qB hb ay;replace HO:=qB hb HO;replace HV:=qB hb HV;replace ah:=qT ah hb;clear hb kX;have gT:=qd (show takeN T g (k+1)=takeN T g k from by show gK _ _ _=_;unfold gK;rw[hsl];rfl);clear hsl;go_upto_region 11 with fail;have q1:=qJ HT.out.aW (qJ HT.out.aX (qJ HM.out.lt (qJ HV.out.lt ah.out.size)));refine eB 76 #[.int .u64 0,.int .u64 0,.int .u64 0] ?_;rintro w5 ⟨hnew,hb⟩;replace HT:=qB hb HT;replace HM:=qB hb HM;replace ay:=qB hb ay;replace HO:=qB hb HO;replace HV:=qB hb HV;replace ah:=qT ah hb;have HD:=qd (hnew);clear hnew hb;go_wp2;go_roundw
    case rel=>exact⟨k+1,by omega,by go_num,by rw[gT.out];exact HT.out,HM.out,ay.out,HO.out,HV.out,ah.out⟩
    case measure=>simp[intOf];omega
  ·obtain rfl:k=8:=by omega
   have HF:=qd (And.intro hT (And.intro hM (And.intro (ru hO (show w.heap.size≤w2.heap.size by omega)) hm)));clear hT hM hE hO hV hm
   have hlt':¬((8:Nat):Int)<8:=by omega
   go_wp2;refine bodyPost_ret (v:= .tuple #[.slice A (bR G).length cc,.nilIface]) (by simp[results,Tryz.results272,go_sem]) rfl ⟨A,cc,rfl,HF.out.2.2.1,HF.out.1,HF.out.2.1,HF.out.2.2.2⟩
end Go.Proofs.YtbfpfgfgfjhpfaaGreatDoor
