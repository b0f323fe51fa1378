/- A snapshot's hashes, and that no key is there twice, by their contracts. No statement of the claim. -/
import Derived.Test.YtbfpfgfgfjhpfaaGreatDoorMixA
import Derived.Test.YtbfpfgfgfjhpfaaGreatDoorSq
import Derived.Test.YtbfpfgfgfjhpfaaGreatDoorCoS
import Derived.Test.YtbfpfgfgfjhpfaaGreatDoorPlA
import Derived.Test.YtbfpfgfgfjhpfaaGreatDoorCoG
import Derived.Test.YtbfpfgfgfjhpfaaGreatDoorRmH
import Derived.Test.YtbfpfgfgfjhpfaaGreatDoorRmP
import Derived.Test.YtbfpfgfgfjhpfaaGreatDoorCoAI
import Derived.LaidEqlPtr
namespace Go.Proofs.YtbfpfgfgfjhpfaaGreatDoor
set_option maxRecDepth 100000
set_option maxHeartbeats 4000000
open Go.RowKit dP zW
section
variable {w : World} {l : PL} {A : Option Addr} {c : Nat}
def kT (w:World):Prop:=∀k,k≤5→∃s:ByteArray,w.cell? ⟨6,k,none⟩=some (.string s)∧s.toList.isEmpty=false
theorem kT.below {w':World}(h:kT w)(hb:Below w.heap.size w w'):kT w':=fun k hk=>by
 obtain⟨s,h1,h2⟩:=h k hk;exact⟨s,aA hb h1,h2⟩
theorem PS (k:Nat)(hk:k≤5)(s:ByteArray)(w:World)(hs:w.cell? ⟨6,k,none⟩=some (.string s)):
  Calls Tryz.prog 29 #[.int .i64 (k:Int)] w fun y w'=>y= .returned (.string s)∧w=w':=by
 have h1:¬(k:Int)<0:=by omega
 have h2:¬(5:Int)<(k:Int):=by omega
 have h3:(0:Int)≤(k:Int):=by omega
 have h4:(k:Int)<6:=by omega
 go_in;go_wp2;go_ret;exact⟨rfl,rfl⟩
def pW (kind:Nat)(p:Nat×Nat):av:=⟨p.1,p.2,fE kind p.1⟩
theorem QO {B:Nat}(hl:Reads w B 2 A l.length (l.flatMap aM))(hn:l.length≤100000)(h64:∀p∈l,p.1<18446744073709551616)(kind:Nat)(hk:kind≤5)(hW:kT w):
  Calls Tryz.prog 25 #[.slice A l.length c,.int .i64 (kind:Int)] w fun y w'=>∃v',y= .returned (.tuple #[v',.nilIface])∧w'.ownsRow w.heap.size 76 3 v' l.length ((l.map (pW kind)).flatMap aG)∧Below w.heap.size w w':=by
 obtain⟨s,hs,hne⟩:=hW kind hk;have HW:=qd (PS kind hk s w hs);have HL:=qd hl;have HK:=qd (fun(p:Nat×Nat) (hp:p∈l) (W:World)=>Xw kind p.1 (h64 p hp) hk W);have HB:=qd (Below.refl w.heap.size w);have HO:=qd (World.ownsRow_nil w w.heap.size 76 3);clear hs hW hl h64;go_in;go_wp2_with fail;refine HW.out.mono ?_;rintro y wq ⟨rfl,rfl⟩;go_wp2;go_loopw [6,17] (fun v6 v17 wr=>∃i:Nat,i≤l.length∧v17= .int .i64 (i:Int)∧Hid (wr.ownsRow w.heap.size 76 3 v6 i (((l.take i).map (pW kind)).flatMap aG))∧Hid (Below w.heap.size w wr)) (fun _ v17 _=>l.length-(intOf v17).toNat)
 case atStart=>exact⟨0,by omega,rfl,HO,HB⟩
 case round=>
  clear HB HO;obtain⟨i,hi,rfl,HO,HB⟩:=hrel;by_cases hlt:i<l.length
  ·have hlt':(i:Int)<(l.length:Int):=by omega
   have hi0:(0:Int)≤(i:Int):=by omega
   have hwi:IntKind.i64.wrap ((i:Int)+1)=((i+1:Nat):Int):=by rw[IntKind.wrap_i64];omega
   obtain⟨p,hp⟩:∃p,l[i]?=some p:=⟨_,List.getElem?_eq_getElem hlt⟩;obtain⟨g,off,hA,hgl,hc⟩:=HL.out.2 (by omega);have r0:wr.cell? ⟨g,off+i*2,none⟩=some (.int .u64 (p.1:Int)):=aA HB.out (hc (i*2+0) _ (dS hp (by omega)));have r1:wr.cell? ⟨g,off+i*2+1,none⟩=some (.int .u64 (p.2:Int)):=aA HB.out (hc (i*2+1) _ (dS hp (by omega)));have HKp:=qd (HK.out p (List.mem_of_getElem? hp));have HP:=qd hp;obtain⟨A6,c6,hv6⟩:=aU HO.out;subst hA;subst hv6;clear hc hp;go_upto_region 7 with fail;refine bU (F:=fun v=>aj v wr.heap.size 37 #[.int .u64 (p.1:Int),.int .u64 (p.2:Int)]∧Below wr.heap.size wr v) ⟨aj.new wr 37 #[.int .u64 (p.1:Int),.int .u64 (p.2:Int)],(Below.refl wr.heap.size wr).alloc (Nat.le_refl _) _⟩ ?_;rintro w6 ⟨jI,hb6⟩;have PU:=qd (own_below HO.out hb6 (Nat.le_refl _));have pV:=qd (HB.out.trans (hb6.mono HB.out.size));obtain⟨bx,hbx⟩:∃bx,bx=wr.heap.size:=⟨_,rfl⟩;rw[←hbx]at jI⊢;obtain⟨x0,x1⟩:=jI.c2;clear jI hb6 hbx HO HB r0 r1;go_wp2_with fail;refine(HKp.out _).mono ?_;rintro y wq ⟨rfl,rfl⟩;have aaN:=PU.out;have hbs:=pV.out.size;go_upto_region 10 with fail;go_wp2_with (at_builtin;refine jF rfl rfl NP aaN rfl rfl rfl rfl rfl (by omega) (by omega) ?_;intro v7 w7 vK hg7)
   have FY:=qd (show w7.ownsRow w.heap.size 76 3 v7 (i+1) (((l.take (i+1)).map (pW kind)).flatMap aG)from by
    rw[List.take_add_one,HP.out]
    simpa[aG,pW]using vK)
   have zw:=qd (pV.out.trans (hg7.below.mono (by omega)));have HM:=qd (show l.length-(i+1)<l.length-i by omega);clear vK hg7 aaN PU pV;go_wp2;go_roundw
   case measure=>simp[intOf];exact HM.out
   exact⟨i+1,by omega,rfl,FY,zw⟩
  ·obtain rfl:i=l.length:=by omega
   have hlt':¬(l.length:Int)<(l.length:Int):=by omega
   have hO:=HO.out;rw[List.take_of_length_le (Nat.le_refl _)]at hO;have xX:=qd hO;obtain⟨A6,c6,hv6⟩:=aU hO;subst hv6;clear hO HO;go_wp2;refine bodyPost_ret (v:= .tuple #[.slice A6 l.length c6,.nilIface]) (by simp[results,Tryz.results25,go_sem]) rfl ⟨_,rfl,xX.out,HB.out⟩
theorem mJ {e:av}{q:Nat}:∀{l:List av} {i:Nat},l[i]?=some e→q<3→(l.flatMap aG)[i*3+q]?=some ((aG e)[q]!)
 | [],_,h,_=>by simp at h
 |x::l,0,h,hq=>by
  obtain rfl:=Option.some.inj h;rw[List.flatMap_cons,List.getElem?_append_left (by simp[aG];omega)]
  have:q=0∨q=1∨q=2:=by omega
  rcases this with rfl|rfl|rfl<;>rfl
 |x::l,i+1,h,hq=>by
  rw[List.flatMap_cons,List.getElem?_append_right (by simp[aG];omega)];have:=mJ (l:=l) (i:=i) h hq;rw[show(i+1)*3+q-(aG x).length=i*3+q by simp[aG];omega];exact this
theorem aaO (hnd:(l.map Prod.fst).Nodup){i:Nat}{p:Nat×Nat}(hp:l[i]?=some p):om (bF (l.take i)) p.1=false∧aS (bF (l.take i)) p.1=none∧(bF (l.take i)).length=i∧bF (l.take (i+1))=gJ (bF (l.take i)) p.1 p.2:=by
 have hlt:i<l.length:=(List.getElem?_eq_some_iff.1 hp).1;have hn1:((l.take i).map Prod.fst).Nodup:=hnd.sublist ((List.take_sublist i l).map _);have hm:=xI hn1
 have hg:aS (bF (l.take i)) p.1=none:=by
  rw[iX];intro q hq he;have hq2:=(hm.1 q).1 hq;obtain⟨j,hj⟩:=List.getElem?_of_mem hq2;rw[List.getElem?_take]at hj;split at hj
  ·next hji=>
   have:=List.pairwise_iff_getElem.1 (show(l.map Prod.fst).Pairwise (·≠·)from hnd) j i (by simp;omega) (by simp;omega) hji;simp only[List.getElem_map]at this;obtain⟨_,rfl⟩:=List.getElem?_eq_some_iff.1 hj;obtain⟨_,rfl⟩:=List.getElem?_eq_some_iff.1 hp;exact this he
  ·cases hj
 refine⟨?_,hg,by rw[hm.2,List.length_take];omega, ?_⟩
 ·rw[zX (iq _),hg];rfl
 ·rw[List.take_add_one,hp];exact yQ _ _
theorem UK {kind:Nat}{base:Nat}(ho:w.ownsRow base 76 3 (.slice A l.length c) l.length ((l.map (pW kind)).flatMap aG))(hn:l.length≤90000)(hnd:(l.map Prod.fst).Nodup):
  Calls Tryz.prog 26 #[.slice A l.length c] w fun y w'=>y= .returned (.bool false)∧Below w.heap.size w w':=by
 have jS:=qd (Ia l.length w);have HO:=qd ho;have II:=qd hnd;clear ho hnd;go_in;go_wp2_with fail;refine jS.out.mono ?_;rintro y w1 ⟨rfl,hf1,hb1⟩;obtain⟨fb,iB⟩:∃fb,fb=w.heap.size:=⟨_,rfl⟩;have HF:=qd (show∃F,kM w.heap.size w1 fb l.length F (bF (l.take 0))from⟨_,by rw[iB];exact hf1⟩);have HB:=qd hb1;rw[←iB];clear hf1 hb1 iB jS;go_wp2;go_loopw [2,13] (fun _ v13 wr=>∃i:Nat,i≤l.length∧v13= .int .i64 (i:Int)∧Hid (∃F,kM w.heap.size wr fb l.length F (bF (l.take i)))∧Hid (Below w.heap.size w wr)) (fun _ v13 _=>l.length-(intOf v13).toNat)
 case atStart=>exact⟨0,by omega,rfl,HF,HB⟩
 case round=>
  clear HB HF;obtain⟨i,hi,rfl,HF,HB⟩:=hrel;by_cases hlt:i<l.length
  ·have hlt':(i:Int)<(l.length:Int):=by omega
   have hi0:(0:Int)≤(i:Int):=by omega
   have hwi:IntKind.i64.wrap ((i:Int)+1)=((i+1:Nat):Int):=by rw[IntKind.wrap_i64];omega
   obtain⟨p,hp⟩:∃p,l[i]?=some p:=⟨_,List.getElem?_eq_getElem hlt⟩
   have hpe:(l.map (pW kind))[i]?=some (pW kind p):=by rw[List.getElem?_map,hp];rfl
   obtain⟨g,off,hA,hgl,hc⟩:=(Reads.eO (own_below HO.out HB.out (Nat.le_refl _))).2 (by omega);have r0:wr.cell? ⟨g,off+i*3,none⟩=some (.int .u64 (p.1:Int)):=hc (i*3+0) _ (mJ hpe (by omega));have r1:wr.cell? ⟨g,off+i*3+1,none⟩=some (.int .u64 (p.2:Int)):=hc (i*3+1) _ (mJ hpe (by omega));have r2:wr.cell? ⟨g,off+i*3+2,none⟩=some (.int .u64 (fE kind p.1:Int)):=hc (i*3+2) _ (mJ hpe (by omega));obtain⟨t1,t2,t3,t4⟩:=aaO II.out hp;have fZ:=qd (And.intro t1 (And.intro t2 (And.intro t3 t4)));subst hA;clear hc hp hpe t1 t2 t3 t4;go_upto_region 5 with fail;refine bU (F:=fun v=>aj v wr.heap.size 76 #[.int .u64 (p.1:Int),.int .u64 (p.2:Int),.int .u64 (fE kind p.1:Int)]∧Below wr.heap.size wr v) ⟨aj.new wr 76 #[.int .u64 (p.1:Int),.int .u64 (p.2:Int),.int .u64 (fE kind p.1:Int)],(Below.refl wr.heap.size wr).alloc (Nat.le_refl _) _⟩ ?_;rintro w6 ⟨jI,hb6⟩;obtain⟨F6,FZ⟩:=HF.out;have Z7:=FZ.below hb6;obtain⟨bx,hbx⟩:∃bx,bx=wr.heap.size:=⟨_,rfl⟩;have jH:=qd (show bx∉F6 from fun hq=>by have:=(FZ.fH bx hq).1;omega);rw[←hbx]at jI⊢;obtain⟨x0,x1⟩:=jI.c2;have CP:=qd jI;have zu:=qd Z7;have pV:=qd (HB.out.trans (hb6.mono HB.out.size));have hG:=Vh Z7 (by rw[fZ.out.2.2.1];omega) p.1;rw[fZ.out.2.1]at hG;have HG:=qd hG;clear jI hb6 hbx FZ Z7 hG HF HB r0 r1 r2;go_wp2_with fail;refine HG.out.mono ?_;rintro y w7 ⟨rfl,mZ⟩;have Sm:=zu.out.below mZ;have Xu:=CP.out.below mZ CP.out.lt;obtain⟨x0,x1⟩:=Xu.c2
   have jE:=qd (Ap Sm (by rw[fZ.out.2.2.1];omega) p.1 p.2 (fun _=>by rw[fZ.out.2.2.1];omega) (by omega));have zw:=qd (pV.out.trans (mZ.mono pV.out.size));have LW:=qd Sm;clear mZ Sm Xu pV zu HG CP;go_wp2_with fail;refine jE.out.mono ?_;rintro y w8 ⟨rfl,F8,Et,rU,wJ⟩;have HF8:=qd (show∃F,kM w.heap.size w8 fb l.length F (bF (l.take (i+1)))from⟨F8,by rw[fZ.out.2.2.2];exact Et⟩);have Jk:=qd (zw.out.trans (wJ.below (fun q hq=>(LW.out.fH q hq).2) zw.out.size));have HM:=qd (show l.length-(i+1)<l.length-i by omega);clear Et rU wJ jE zw;go_wp2;go_roundw
   case measure=>simp[intOf];exact HM.out
   exact⟨i+1,by omega,rfl,HF8,Jk⟩
  ·obtain rfl:i=l.length:=by omega
   have hlt':¬(l.length:Int)<(l.length:Int):=by omega
   go_wp2;go_ret;exact⟨rfl,HB.out⟩
end
section
structure kN (W0:World)(E:Nat→Addr)(H:Nat→Nat)(K M I K' M' I' db sb mb:Nat)(w0 w:World)(G F:List Nat)(a:Pool)(ids:List Nat)(its:List It)(gv:Nat)(dK:bE)(R:Nat→Option Nat)(n:Nat)(cs:Array Value):Prop where
 dst:ku W0 E H K M I db G w R n [] 0
 src:jV W0 E H K' M' I' sb F w a ids its gv dK
 blk:aj w mb 81 cs
 apart:∀q∈G,q∉F
 mG:mb∉G
 mF:mb∉F
 fG:∀q∈G,w0.heap.size≤q
 fF:∀q∈F,w0.heap.size≤q
 fm:w0.heap.size≤mb
 below:Below w0.heap.size w0 w
 base:W0.heap.size≤w0.heap.size
section
variable {W0 : World} {E : Nat → Addr} {H : Nat → Nat} {K M I K' M' I' db sb mb : Nat} {w0 w w' : World} {G F : List Nat} {a a' : Pool} {ids aO : List Nat} {its oH : List It} {gv yH : Nat} {dK dL : bE} {R R' : Nat → Option Nat} {n n' : Nat} {cs cs' : Array Value}
theorem kN.aaP (h:kN W0 E H K M I K' M' I' db sb mb w0 w G F a ids its gv dK R n cs)(hr:GV W0 E H K M I db G w w' R' n' [] 0):∃G',kN W0 E H K M I K' M' I' db sb mb w0 w' G' F a ids its gv dK R' n' cs:=by
 obtain⟨G',h1,h2,h3⟩:=hr;have hsz:=h.below.size;refine⟨G',h1,h.src.mod h3 (fun q hq=>⟨h.apart q hq,Nat.le_trans h.base (h.fG q hq)⟩),h.blk.mod h3 h.mG,fun q hq hf=> ?_,fun hq=> ?_,h.mF,fun q hq=> ?_,h.fF,h.fm,h.below.trans (h3.below h.fG hsz),h.base⟩
 ·rcases h2 q hq with k|k
  ·exact h.apart q k hf
  ·have:=(h.src.facts.1 q hf).1;omega
 ·rcases h2 _ hq with k|k
  ·exact h.mG k
  ·have:=h.blk.lt;omega
 ·rcases h2 q hq with k|k
  ·exact h.fG q k
  ·omega
theorem kN.UL (h:kN W0 E H K M I K' M' I' db sb mb w0 w G F a ids its gv dK R n cs)(hr:qC W0 E H K' M' I' sb F w w' a' aO oH yH dL):∃F',(∀q∈F',q∈F∨w.heap.size≤q)∧kN W0 E H K M I K' M' I' db sb mb w0 w' G F' a' aO oH yH dL R n cs:=by
 obtain⟨F',h1,h2,h3⟩:=hr;have hsz:=h.below.size;refine⟨F',h2,h.dst.mod h3 (fun q hq=>⟨fun hg=>h.apart q hg hq,Nat.le_trans h.base (h.fF q hq)⟩),h1,h.blk.mod h3 h.mF,fun q hq hf=> ?_,h.mG,fun hq=> ?_,h.fG,fun q hq=> ?_,h.fm,h.below.trans (h3.below h.fF hsz),h.base⟩
 ·rcases h2 q hf with k|k
  ·exact h.apart q hq k
  ·have:=(h.dst.fH q hq).1;omega
 ·rcases h2 _ hq with k|k
  ·exact h.mF k
  ·have:=h.blk.lt;omega
 ·rcases h2 q hq with k|k
  ·exact h.fF q k
  ·omega
theorem kN.aaQ {S:List Nat}(h:kN W0 E H K M I K' M' I' db sb mb w0 w G F a ids its gv dK R n cs)(hm:Mod S w w')(hS:∀q∈S,q∉G∧q∉F∧q≠mb∧w0.heap.size≤q):kN W0 E H K M I K' M' I' db sb mb w0 w' G F a ids its gv dK R n cs:=
 ⟨h.dst.mod hm (fun q hq=>⟨(hS q hq).1,Nat.le_trans h.base (hS q hq).2.2.2⟩),h.src.mod hm (fun q hq=>⟨(hS q hq).2.1,Nat.le_trans h.base (hS q hq).2.2.2⟩),h.blk.mod hm (fun hq=>(hS _ hq).2.2.1 rfl),h.apart,h.mG,h.mF,h.fG,h.fF,h.fm,h.below.trans (hm.below (fun q hq=>(hS q hq).2.2.2) h.below.size),h.base⟩
theorem kN.toBelow (h:kN W0 E H K M I K' M' I' db sb mb w0 w G F a ids its gv dK R n cs)(hb:Below w.heap.size w w'):kN W0 E H K M I K' M' I' db sb mb w0 w' G F a ids its gv dK R n cs:=
 ⟨h.dst.below hb,h.src.below hb,h.blk.below hb h.blk.lt,h.apart,h.mG,h.mF,h.fG,h.fF,h.fm,h.below.trans (hb.mono h.below.size),h.base⟩
theorem kN.aaR (h:kN W0 E H K M I K' M' I' db sb mb w0 w G F a ids its gv dK R n cs)(i:Nat)(u:Value)(hc:cs.setIfInBounds i u=cs'):kN W0 E H K M I K' M' I' db sb mb w0 (w.setCell ⟨mb,i,none⟩ u) G F a ids its gv dK R n cs':=by
 have hm:Mod [mb] w (w.setCell ⟨mb,i,none⟩ u):=(Mod.refl [mb] w).sl i u;have hW:=Nat.le_trans h.base h.fm;subst hc;exact⟨h.dst.mod hm (fun q hq=>by obtain rfl:=List.mem_singleton.1 hq;exact⟨h.mG,hW⟩),h.src.mod hm (fun q hq=>by obtain rfl:=List.mem_singleton.1 hq;exact⟨h.mF,hW⟩),h.blk.ak i u,h.apart,h.mG,h.mF,h.fG,h.fF,h.fm,h.below.trans (hm.below (fun q hq=>by obtain rfl:=List.mem_singleton.1 hq;exact h.fm) h.below.size),h.base⟩
end
def kP (db sb:Nat)(p:Int)(kind id:Nat)(dn:Bool)(z:Int):Array Value:= #[.pointer (some ⟨db,0,none⟩),.pointer (some ⟨sb,0,none⟩),.int .i64 p,.int .i64 (kind:Int),.int .i64 (id:Int),.bool dn,.int .i64 z,.int .i64 0,.int .i64 0]
def uM (p:Int)(o:Option Nat)(v:Nat):Nat:=match o with
 |some old=>qw p old v
 |none=>v
theorem Xx {W0:World}{E:Nat→Addr}{K M I K' M' I' db sb mb kind id:Nat}{w0 w:World}{G F:List Nat}{a:Pool}{ids:List Nat}{its:List It}{gv:Nat}{dK:bE}{R:Nat→Option Nat}{n:Nat}{p z:Int}{dn:Bool}(h:kN W0 E (fE kind) K M I K' M' I' db sb mb w0 w G F a ids its gv dK R n (kP db sb p kind id dn z))(hk5:kind≤5)(hp:p≠6)(key val:Nat)(hk:key<18446744073709551616)(hv:val<18446744073709551616)(hR:∀o,R key=some o→o<18446744073709551616)(hn:n<M):
  Calls Tryz.prog 51 #[.pointer (some ⟨mb,0,none⟩),.int .u64 (key:Int),.int .u64 (val:Int)] w fun y w'=>y= .returned .nilIface∧∃G' z',kN W0 E (fE kind) K M I K' M' I' db sb mb w0 w' G' F a ids its gv dK (fun x=>if x=key then some (uM p (R key) val)else R x) (yK M (R key) n) (kP db sb p kind id dn z'):=by
 have HO:=qd (fun(W:World)=>Xw kind key hk hk5 W);have HG:=qd (adj h.dst key (J4 _ _));have HX:=qd h;have hb:=h.blk;unfold kP at hb;have c0:=hb.cell 0;have c2:=hb.cell 2;have c3:=hb.cell 3;simp only[gl]at c0 c2 c3;clear hb h;go_in;go_wp2_with fail;refine(HO.out _).mono ?_;rintro y wq ⟨rfl,rfl⟩;clear HO;go_wp2_with fail;refine HG.out.mono ?_;rintro y w1 ⟨rfl,hto⟩;obtain⟨G1,h1⟩:=HX.out.aaP hto;have HX1:=qd h1
 have adv:uM p (R key) val<18446744073709551616:=by
  unfold uM
  cases hr:R key with
  |none=>
   exact hv
  |some o=>
   exact JD (hR o hr) hv
 have hroom:noRoom M (R key) n=false:=by
  unfold noRoom;rw[show decide (M≤n)=false from decide_eq_false (by omega)];simp
 have hput:=Xo h1.dst ⟨key,uM p (R key) val,fE kind key⟩ ⟨rfl,J4 _ _,hk,adv⟩;simp only at hput;rw[hroom]at hput;unfold J2 at hput;rw[hroom]at hput;simp only[Bool.false_eq_true,if_false,Df]at hput;have HP:=qd hput;have hb:=h1.blk;unfold kP at hb;have d0:=hb.cell 0;have d2:=hb.cell 2;simp only[gl]at d0 d2;clear hb h1 hto hput c0 c2 c3 HG HX hroom adv;cases hr:R key
 case' none=>
  have HR:=qd hr;simp only[hr,uM,Option.isSome_none,Option.getD_none]at HP⊢
 case' some o=>
  have HR:=qd hr;simp only[hr,uM,Option.isSome_some,Option.getD_some]at HP⊢;have HB:=qd (fun(W:World)=>Iw p o val (hR o hr) hv W);rw[show xQ p=true from by unfold xQ;simp[hp]]at HB;clear hr hR;go_wp2_with fail;refine(HB.out _).mono ?_;rintro y wq ⟨rfl,rfl⟩;clear HB
 all_goals
  go_wp2_with fail;refine HP.out.mono ?_;rintro y w2 ⟨rfl,hto⟩;obtain⟨G2,h2⟩:=HX1.out.aaP hto;have Sn:=qd h2;have hb:=h2.blk;unfold kP at hb;have e6:=hb.cell 6;have f6:=hb.frozen 6;simp only[gl]at e6;have HF:=qd (h2.aaR 6 (.int .i64 (wrap64 (z+1))) (cs':=kP db sb p kind id dn (wrap64 (z+1))) rfl);clear hb h2 hto HP HX1 d0 d2;go_wp2;refine bodyPost_ret (v:= .nilIface) (by simp[results,Tryz.results51,go_sem]) rfl ⟨rfl,G2,_,by rw[HR.out];exact HF.out⟩
end
def aaS (W0:World)(E:Nat→Addr)(K M I K' M' I' db sb mb kind id cb:Nat)(w0:World)(G F:List Nat)(a:Pool)(ids:List Nat)(gv:Nat)(R:Nat→Option Nat)(n:Nat)(p z:Int)(it:AY)(c':gq)(dL:bE)(y:Ending)(w':World):Prop:=
 (it.st=1∧y= .returned (.tuple #[.bool false,.nilIface])∧∃G' F' z',kN W0 E (fE kind) K M I K' M' I' db sb mb w0 w' G' F' a ids [⟨id,cb,c'⟩] gv dL (fun x=>if x=it.key then some (uM p (R it.key) it.val)else R x) (yK M (R it.key) n) (kP db sb p kind id false z'))∨
 (it.st=2∧y= .returned (.tuple #[.bool false,.nilIface])∧∃F',kN W0 E (fE kind) K M I K' M' I' db sb mb w0 w' G F' a ids [⟨id,cb,c'⟩] gv dL R n (kP db sb p kind id false z))∨
 (it.st=3∧y= .returned (.tuple #[.bool true,.nilIface])∧∃F',kN W0 E (fE kind) K M I K' M' I' db sb mb w0 w' G F' a ids [] gv dL R n (kP db sb p kind id true z))
theorem UM {W0:World}{E:Nat→Addr}{K M I K' M' I' db sb mb kind id cb:Nat}{w0 w:World}{G F:List Nat}{a:Pool}{ids:List Nat}{gv:Nat}{dK:bE}{R:Nat→Option Nat}{n:Nat}{p z:Int}{c:gq}(h:kN W0 E (fE kind) K M I K' M' I' db sb mb w0 w G F a ids [⟨id,cb,c⟩] gv dK R n (kP db sb p kind id false z))(hk5:kind≤5)(hp:p≠6)(h6:gN E W0 6)(hok:c.ok)(hR:∀k o,R k=some o→o<18446744073709551616)(hn:n<M∨∀it c',iT a.ents (fI a) c it c'→it.st≠1)(hit:∀it c',iT a.ents (fI a) c it c'→(it.st=1∨it.st=2∨it.st=3)∧it.key<18446744073709551616∧it.val<18446744073709551616):
  Calls Tryz.prog 31 #[.pointer (some ⟨mb,0,none⟩)] w fun y w'=>∃it c' dL,iT a.ents (fI a) c it c'∧aaS W0 E K M I K' M' I' db sb mb kind id cb w0 G F a ids gv R n p z it c' dL y w':=by
 have HX:=qd h;have HK:=qd hok;have H6:=qd h6;have HQ:=qd (And.intro hk5 (And.intro hp (And.intro hR (And.intro hn hit))));have hb:=h.blk;unfold kP at hb;have c1:=hb.cell 1;have c4:=hb.cell 4;have c5:=hb.cell 5;simp only[gl]at c1 c4 c5;clear hb h hok h6 hk5 hp hR hn hit;go_in;go_upto_region 3 with fail;clear c5
 refine Gp (fun a' wz=>∃(bx:Nat) (it:AY) (c':gq) (dL:bE) (F':List Nat),a'={tmps:= #[.pointer (some ⟨mb,0,none⟩),undef,.bool false,.nilIface,.pointer (some ⟨bx,0,none⟩),.nilIface,.pointer (some ⟨mb,0,none⟩),.pointer (some ⟨mb,0,none⟩),.pointer (some ⟨mb,5,none⟩),.bool false,.tuple #[.agg #[.int .i64 (it.st:Int),.int .u64 (it.key:Int),.int .u64 (it.val:Int)],.nilIface],.pointer (some ⟨mb,0,none⟩),.pointer (some ⟨mb,0,none⟩),.pointer (some ⟨mb,1,none⟩),.pointer (some ⟨sb,0,none⟩),.pointer (some ⟨mb,0,none⟩),.pointer (some ⟨mb,0,none⟩),.pointer (some ⟨mb,4,none⟩),.int .i64 (id:Int),.tuple #[.agg #[.int .i64 (it.st:Int),.int .u64 (it.key:Int),.int .u64 (it.val:Int)],.nilIface],.agg #[.int .i64 (it.st:Int),.int .u64 (it.key:Int),.int .u64 (it.val:Int)],.nilIface,undef,undef,undef,undef,undef,undef,undef,undef,undef,undef,undef,undef,undef,undef,undef,undef,undef,undef,undef,undef,undef,undef,undef,undef,undef,undef,undef,undef,undef,undef],defers:=[]}∧iT a.ents (fI a) c it c'∧aj wz bx 86 #[.int .i64 (it.st:Int),.int .u64 (it.key:Int),.int .u64 (it.val:Int)]∧kN W0 E (fE kind) K M I K' M' I' db sb mb w0 wz G F' a ids [⟨id,cb,c'⟩] gv dL R n (kP db sb p kind id false z)) ?_ ?_
 ·refine rT (fun(w':World)=>w'.cell? ⟨mb,1,none⟩=some (.pointer (some ⟨sb,0,none⟩))∧w'.cell? ⟨mb,4,none⟩=some (.int .i64 (id:Int))) [] ?_;have hHeld:=(⟨c1,c4⟩:_∧_);refine vW 0 rfl ?_;refine vW 1 rfl ?_;refine vW 2 rfl ?_;refine vT 3 rfl ?_;refine vW 4 rfl ?_;refine vW 5 rfl ?_;refine vW 6 rfl ?_;refine vT 7 rfl ?_;clear hHeld;refine bU (F:=fun v=>Below w.heap.size w v) ((Below.refl w.heap.size w).drew) ?_;rintro v1 hb1;have Cg:=qd (HX.out.toBelow hb1);clear hb1 c1 c4;have hb:=Cg.out.blk;unfold kP at hb;have c1:=hb.cell 1;have c4:=hb.cell 4;simp only[gl]at c1 c4;clear hb;refine pairT (i:=8) (j:=12) (o:=⟨some 19,_,_,_,_,_⟩) (o':=⟨some 4,_,_,_,_,_⟩) rfl rfl (by kernel_rfl) (fun Kn hK=> ?_) (fun Kn hK=> ?_)
  focus
   go_simp;have gT:=J3 Cg.out.src H6.out (id:=id) (cb:=cb) (c:=c) (by simp) HK.out;unfold wI at gT;replace gT:=qd gT;refine gT.out.mono ?_;rintro y v2 ⟨it,c',dL,rfl,hns,-,hrt⟩;obtain⟨F',hF',h2⟩:=Cg.out.UL hrt;have Ch:=qd (show kN W0 E (fE kind) K M I K' M' I' db sb mb w0 v2 G F' a ids [⟨id,cb,c'⟩] gv dL R n (kP db sb p kind id false z)from by simpa[j5]using h2);have Xy:=qd hns;clear hns hrt h2 gT c1 c4;have hb:=Ch.out.blk;unfold kP at hb;have c1:=hb.cell 1;have c4:=hb.cell 4;simp only[gl]at c1 c4;clear hb;go_wp2_with fail;refine hK.out _ _ (fun _=>⟨c1,c4⟩) ?_;clear hK Kn
   try simp only[pt]
   have hHeld:=(⟨c1,c4⟩:_∧_);refine vW 9 rfl ?_;refine vW 10 rfl ?_;refine vW 11 rfl ?_;clear hHeld;refine p9 (i:=12) (o:=⟨some 4,_,_,_,_,_⟩) rfl (by kernel_rfl) (fun Kn hK=> ?_);go_simp;refine bU (F:=fun v=>aj v v2.heap.size 86 #[.int .i64 0,.int .u64 0,.int .u64 0]∧Below v2.heap.size v2 v) ⟨aj.new v2 86 #[.int .i64 0,.int .u64 0,.int .u64 0],(Below.refl v2.heap.size v2).alloc (Nat.le_refl _) _⟩ ?_;rintro v3 ⟨hB,hb1⟩;obtain⟨bx,hbx⟩:∃bx,bx=v2.heap.size:=⟨_,rfl⟩;rw[←hbx]at hB⊢;have HB:=qd hB;have J5:=qd (Ch.out.toBelow hb1);have jH:=qd hbx;clear hB hbx c1 c4;have hb:=J5.out.blk;unfold kP at hb;have c1:=hb.cell 1;have c4:=hb.cell 4;simp only[gl]at c1 c4;clear hb;refine hK.out _ _ (fun _=>⟨c1,c4⟩) ?_;clear hK Kn
   try simp only[pt]
   refine p9 (i:=13) (o:=⟨none,_,_,_,_,_⟩) rfl (by kernel_rfl) (fun Kn hK=> ?_);obtain⟨y0,y1,y2⟩:=HB.out.c3;obtain⟨f0,f1,f2⟩:=HB.out.f3;go_simp;refine Fg HB.out ?_;rintro v5 ⟨hnew,hm⟩;simp only[pt]at hnew
   have UN:bx∉G∧bx∉F'∧bx≠mb∧w0.heap.size≤bx:=by
    have h1:=jH.out;refine⟨fun h=> ?_,fun h=> ?_,fun h=> ?_, ?_⟩
    ·have:=(Ch.out.dst.fH _ h).1;omega
    ·have:=(Ch.out.src.facts.1 _ h).1;omega
    ·have:=Ch.out.blk.lt;omega
    ·have:=Ch.out.below.size;omega
   have Z8:=qd (J5.out.aaQ hm (fun q hq=>by obtain rfl:=List.mem_singleton.1 hq;exact UN))
  rotate_left
  focus
   go_simp;refine bU (F:=fun v=>aj v v1.heap.size 86 #[.int .i64 0,.int .u64 0,.int .u64 0]∧Below v1.heap.size v1 v) ⟨aj.new v1 86 #[.int .i64 0,.int .u64 0,.int .u64 0],(Below.refl v1.heap.size v1).alloc (Nat.le_refl _) _⟩ ?_;rintro v3 ⟨hB,hb1⟩;obtain⟨bx,hbx⟩:∃bx,bx=v1.heap.size:=⟨_,rfl⟩;rw[←hbx]at hB⊢;have HB:=qd hB;have J5:=qd (Cg.out.toBelow hb1);have jH:=qd hbx;have HSz:=qd (show bx<v3.heap.size from hB.lt);clear hB hbx c1 c4;have hb:=J5.out.blk;unfold kP at hb;have c1:=hb.cell 1;have c4:=hb.cell 4;simp only[gl]at c1 c4;clear hb;refine hK.out _ _ (fun _=>⟨c1,c4⟩) ?_;clear hK Kn
   try simp only[pt]
   refine p9 (i:=8) (o:=⟨some 19,_,_,_,_,_⟩) rfl (by kernel_rfl) (fun Kn hK=> ?_);go_simp;have gT:=J3 J5.out.src H6.out (id:=id) (cb:=cb) (c:=c) (by simp) HK.out;unfold wI at gT;replace gT:=qd gT;refine gT.out.mono ?_;rintro y v2 ⟨it,c',dL,rfl,hns,-,hrt⟩;obtain⟨F',hF',h2⟩:=J5.out.UL hrt;have Ir:=qd hF'
   have Lx:=qd (show aj v2 bx 86 #[.int .i64 0,.int .u64 0,.int .u64 0]from by
    obtain⟨_,_,_,hmm⟩:=hrt
    exact HB.out.mod hmm (fun h=>by have:=(Cg.out.src.facts.1 _ h).1;have:=jH.out;omega))
   have Ch:=qd (show kN W0 E (fE kind) K M I K' M' I' db sb mb w0 v2 G F' a ids [⟨id,cb,c'⟩] gv dL R n (kP db sb p kind id false z)from by simpa[j5]using h2);have Xy:=qd hns;clear hns hrt h2 gT c1 c4;have hb:=Ch.out.blk;unfold kP at hb;have c1:=hb.cell 1;have c4:=hb.cell 4;simp only[gl]at c1 c4;clear hb;go_wp2_with fail;refine hK.out _ _ (fun _=>⟨c1,c4⟩) ?_;clear hK Kn
   try simp only[pt]
   have hHeld:=(⟨c1,c4⟩:_∧_);refine vW 9 rfl ?_;refine vW 10 rfl ?_;refine vW 11 rfl ?_;clear hHeld;have HBy:=qd (Lx.out);clear HB;have HB:=HBy;refine p9 (i:=13) (o:=⟨none,_,_,_,_,_⟩) rfl (by kernel_rfl) (fun Kn hK=> ?_);obtain⟨y0,y1,y2⟩:=HB.out.c3;obtain⟨f0,f1,f2⟩:=HB.out.f3;go_simp;refine Fg HB.out ?_;rintro v5 ⟨hnew,hm⟩;simp only[pt]at hnew
   have UN:bx∉G∧bx∉F'∧bx≠mb∧w0.heap.size≤bx:=by
    have h1:=jH.out;have h3:=HSz.out;refine⟨fun h=> ?_,fun h=> ?_,fun h=> ?_, ?_⟩
    ·have:=(Cg.out.dst.fH _ h).1;omega
    ·rcases Ir.out _ h with k|k
     ·have:=(Cg.out.src.facts.1 _ k).1;omega
     ·omega
    ·have:=Cg.out.blk.lt;omega
    ·have:=Cg.out.below.size;omega
   have Z8:=qd (Ch.out.aaQ hm (fun q hq=>by obtain rfl:=List.mem_singleton.1 hq;exact UN))
  all_goals
   clear c1 c4 UN y0 y1 y2 f0 f1 f2;have hb:=Z8.out.blk;unfold kP at hb;have c1:=hb.cell 1;have c4:=hb.cell 4;simp only[gl]at c1 c4;clear hb;refine hK.out _ _ (fun _=>⟨c1,c4⟩) ?_;clear hK Kn
   try simp only[pt]
   refine p9 (i:=14) (o:=⟨some 5,_,_,_,_,_⟩) rfl (by kernel_rfl) (fun Kn hK=> ?_);go_simp;refine hK.out _ _ (fun _=>⟨c1,c4⟩) ?_;clear hK Kn
   try simp only[pt]
   refine aY (by kernel_rfl) ?_ _;exact⟨bx,it,c',dL,F',rfl,Xy.out,hnew,Z8.out⟩
 clear HX HK c1 c4;rintro a' wz ⟨bx,it,c',dL,F',rfl,hns,hB,hX⟩;obtain⟨x0,x1,x2⟩:=hB.c3;obtain⟨hst,hky,hvl⟩:=HQ.out.2.2.2.2 it c' hns;have HN:=qd hns;have HX:=qd hX;obtain⟨st,ky,vl⟩:=it;simp only at hst hky hvl x0 x1 x2⊢;rcases hst with rfl|rfl|rfl
 ·have hnM:n<M:=HQ.out.2.2.2.1.resolve_right (fun hh=>hh _ _ hns rfl);have HLy:=qd (Xx hX HQ.out.1 HQ.out.2.1 ky vl hky hvl (fun o ho=>HQ.out.2.2.1 ky o ho) hnM);clear hX hns hB hnM hky hvl;go_wp2_with fail;refine HLy.out.mono ?_;rintro y w2 ⟨rfl,G',z',h2⟩;have H2:=qd h2;clear h2 HLy x0 x1 x2;go_wp2;refine bodyPost_ret (v:= .tuple #[.bool false,.nilIface]) (by simp[results,Tryz.results31,go_sem]) rfl ⟨_,c',dL,HN.out,.inl ⟨rfl,rfl,G',F',z',H2.out⟩⟩
 ·clear hX hns hB hky hvl;go_wp2;refine bodyPost_ret (v:= .tuple #[.bool false,.nilIface]) (by simp[results,Tryz.results31,go_sem]) rfl ⟨_,c',dL,HN.out,.inr (.inl ⟨rfl,rfl,F',HX.out⟩)⟩
 ·have hb:=hX.blk;unfold kP at hb;have d1:=hb.cell 1;have d4:=hb.cell 4;have d5:=hb.cell 5;have f5:=hb.frozen 5;simp only[gl]at d1 d4 d5;clear hb hns hB hky hvl hX;go_upto_region 12 with fail;refine bU (F:=fun v=>kN W0 E (fE kind) K M I K' M' I' db sb mb w0 v G F' a ids [⟨id,cb,c'⟩] gv dL R n (kP db sb p kind id true z)) (HX.out.aaR 5 (.bool true) rfl) ?_;rintro w3 LU;have hb:=LU.blk;unfold kP at hb;clear d1 d4 d5 f5;have d1:=hb.cell 1;have d4:=hb.cell 4;simp only[gl]at d1 d4
  have Ar:=qd (fun(W:World) (hbW:Below w3.heap.size w3 W)=>show Calls Tryz.prog 34 #[.pointer (some ⟨sb,0,none⟩),.int .i64 (id:Int)] W (fun y w'=>y= .returned .nilIface∧∃F4,kN W0 E (fE kind) K M I K' M' I' db sb mb w0 w' G F4 a ids [] gv dL R n (kP db sb p kind id true z))from
   (Pz (LU.toBelow hbW).src (j:=0) rfl).mono (by
    rintro y w4 ⟨rfl,hrt⟩;obtain⟨F4,-,h4⟩:=(LU.toBelow hbW).UL hrt
    exact⟨rfl,F4,by simpa using h4⟩))
  have HX3:=qd LU;clear hb LU HX x0 x1 x2;go_region_with (go_at_call 34;refine(Ar.out _ (by first|exact Below.refl _ _|exact(Below.refl _ _).drew)).mono ?_;rintro y w4 ⟨rfl,F4,h4⟩)
  all_goals
   have H4:=qd h4;clear h4;go_wp2;refine bodyPost_ret (v:= .tuple #[.bool true,.nilIface]) (by simp[results,Tryz.results31,go_sem]) rfl ⟨_,c',dL,HN.out,.inr (.inr ⟨rfl,rfl,F4,H4.out⟩)⟩
section
variable {p : Int} {R : Nat → Option Nat} {es out : List av} {m : av} {W0 w w0 : World} {E : Nat → Addr} {H : Nat → Nat} {I I' K K' Kk M M' b db gv kind n sb : Nat} {F G ids : List Nat} {a : Pool} {its : List It} {dK : bE}
def qD (p:Int)(R:Nat→Option Nat)(out:List av):Nat→Option Nat:=fun k=>match look out k with
 |some e=>some (uM p (R k) e.val)
 |none=>R k
theorem Xz (h:look out m.key=none):(fun x=>if x=m.key then some (uM p (qD p R out m.key) m.val)else qD p R out x)=qD p R (out++[m]):=by
 funext x;unfold qD;rw[h,Jj];by_cases hx:x=m.key
 ·subst hx;rw[if_pos rfl,h,Option.none_or,if_pos rfl]
 ·rw[if_neg hx,if_neg (fun e=>hx e.symm),Option.or_none]
theorem XA (hp:out.Perm es)(hn:(out.map av.key).Nodup):qD p R out=qD p R es:=by
 funext x;unfold qD;rw[DN hp hn]
theorem abS {o:Option Nat}{v:Nat}(ho:∀u,o=some u→u<18446744073709551616)(hv:v<18446744073709551616):uM p o v<18446744073709551616:=by
 unfold uM
 cases o with
 |none=>exact hv
 |some u=>exact JD (ho u rfl) hv
theorem abT (hR:∀k u,R k=some u→u<18446744073709551616)(hv:∀e∈out,e.val<18446744073709551616)(k o:Nat)(h:qD p R out k=some o):o<18446744073709551616:=by
 unfold qD at h
 cases hl:look out k with
 |none=>rw[hl]at h;exact hR k o h
 |some e=>
  rw[hl]at h;obtain rfl:=Option.some.inj h;exact abS (hR k) (hv e (rz hl).1)
theorem abU (M:Nat)(o:Option Nat)(n:Nat):yK M o n≤n+1:=by
 unfold yK
 split<;>omega
theorem abV (h:jV W0 E H Kk M I b G w a ids its gv dK):∀e∈a.ents,e.val<18446744073709551616:=fun e he=>by
 obtain⟨C,GC,mb,h1,_⟩:=h;obtain⟨i,N,g1,g2⟩:=mI.1 he;exact((h1.core.facts.2.2.2.2.2.1 i N g1).hash e g2).1.v64
theorem XB {hs:List Nat}{c:gq}(hn:(es.map av.key).Nodup)(h:Way es hs n (out++[m]) c):look out m.key=none:=by
 have h2:=Ce hn h;rw[List.map_append,List.map_append,List.nodup_append]at h2;refine zl fun e he hk=> ?_;exact absurd hk (h2.2.2 e.key (by rw[List.map_map];exact List.mem_map_of_mem (f:=av.key) he) m.key (by simp[qO]))
theorem XC {mb id cb:Nat}{z:Int}(h:kN W0 E (fE kind) K M I K' M' I' db sb mb w0 w G F a ids [⟨id,cb,⟨0,0,false⟩⟩] gv dK R n (kP db sb p kind id false z))(hk5:kind≤5)(hp:p≠6)(h6:gN E W0 6)(hR:∀k o,R k=some o→o<18446744073709551616)(hn:n+a.ents.length≤M):
  Calls Tryz.prog 13 #[.pointer (some ⟨mb,0,none⟩)] w fun y w'=>y= .returned .nilIface∧∃G' F' dL n' z',kN W0 E (fE kind) K M I K' M' I' db sb mb w0 w' G' F' a ids [] gv dL (qD p R a.ents) n' (kP db sb p kind id true z'):=by
 have ug:=qd h.src.facts.2.1;have Es:=qd (Sj h.src);have PV:=qd (abV h.src);have HQ:=qd (And.intro hk5 (And.intro hp (And.intro h6 (And.intro hR hn))));have HX:=qd (show kN W0 E (fE kind) K M I K' M' I' db sb mb w0 w G F a ids [⟨id,cb,⟨0,0,false⟩⟩] gv dK (qD p R []) n (kP db sb p kind id false z)from h);have HW:=qd (Way.start a.ents (fI a));have HN:=qd (show n≤n+([]:List av).length from Nat.le_add_right _ _);clear h hk5 hp h6 hR hn;go_in;go_wp2;go_loopg [3,4] (qN a.ents (fI a) ⟨0,0,false⟩) (fun k _ _ wr=>∃(n1:Nat) (G F:List Nat) (c:gq) (dK:bE) (out:List av) (m:Nat) (z:Int),k=qN a.ents (fI a) c∧Hid (kN W0 E (fE kind) K M I K' M' I' db sb mb w0 wr G F a ids [⟨id,cb,c⟩] gv dK (qD p R out) m (kP db sb p kind id false z))∧Hid (Way a.ents (fI a) n1 out c)∧Hid (m≤n+out.length))
 case atStart=>exact⟨0,G,F,_,_,[],n,z,rfl,HX,HW,HN⟩
 case round=>
  clear HX HW HN;obtain⟨n1,G,F,c,dK,out,m,z,hk,HX,HW,HN⟩:=hrel;have hsub:∀e∈out,e∈a.ents:=fun e he=>((HW.out.mem e).1 he).1
  have XD:m<M∨∀it c',iT a.ents (fI a) c it c'→it.st≠1:=by
   by_cases hm:m<M
   ·exact .inl hm
   ·refine .inr fun it c' hns hst=>hm ?_;obtain⟨out',hw',ho⟩:=HW.out.next ug.out Es.out hns;rcases ho with⟨_,_,e,_,rfl,_⟩|⟨h,_⟩
    ·have:=Si hw';rw[List.length_append,List.length_singleton]at this;have:=HN.out;have:=HQ.out.2.2.2.2;omega
    ·exact absurd hst h
  have hit:∀it c',iT a.ents (fI a) c it c'→(it.st=1∨it.st=2∨it.st=3)∧it.key<18446744073709551616∧it.val<18446744073709551616:=fun it c' hns=>by
   obtain⟨out',hw',ho⟩:=HW.out.next ug.out Es.out hns;rcases ho with⟨h1,_,e,he,_,_,_,h2,h3,_⟩|⟨_,_,h2,h3,h1,_⟩
   ·exact⟨.inl h1,by rw[h2];exact(Es.out e he).2,by rw[h3];exact PV.out e he⟩
   ·exact⟨.inr h1,by rw[h2];decide,by rw[h3];decide⟩
  have jY:=qd (UM HX.out HQ.out.1 HQ.out.2.1 HQ.out.2.2.1 HW.out.ok (abT HQ.out.2.2.2.1 (fun e he=>PV.out e (hsub e he))) XD hit);have HK:=qd hk;clear hk hsub XD hit HX;go_wp2_with fail;refine jY.out.mono ?_;rintro y w2 ⟨it,c',dL,hns,hq⟩;have pz:=qd (fun hst:it.st≠3=>hns.qN Es.out hst);obtain⟨out',hw',hor⟩:=HW.out.next ug.out Es.out hns;unfold aaS at hq;rcases hq with⟨hst,rfl,G',F',z',h2⟩|⟨hst,rfl,F',h2⟩|⟨hst,rfl,F',h2⟩
  ·rcases hor with⟨_,_,e,_,rfl,_,_,h3,h4,_⟩|⟨h,_⟩
   ·rw[h3,h4,Xz (XB ug.out hw')]at h2;have Sn:=qd h2;have HW2:=qd hw'
    have HN2:=qd (show yK M (qD p R out e.key) m≤n+(out++[e]).length from by
     have:=abU M (qD p R out e.key) m;have:=HN.out;rw[List.length_append,List.length_singleton]
     omega)
    have PG:=qd (show qN a.ents (fI a) c'<gk from by rw[HK.out];exact pz.out (by rw[hst];decide));clear h2 hw' h3 h4 hst hns pz jY HW HN;go_wp2;go_roundg (qN a.ents (fI a) c')
    case measure=>exact PG.out
    case rel=>exact⟨n1+1,G',F',c',dL,out++[e],_,z',rfl,Sn,HW2,HN2⟩
   ·exact absurd hst h
  ·rcases hor with⟨h,_⟩|⟨_,rfl,_⟩
   ·rw[hst]at h;cases h
   ·have Sn:=qd h2;have HW2:=qd hw';have PG:=qd (show qN a.ents (fI a) c'<gk from by rw[HK.out];exact pz.out (by rw[hst];decide));clear h2 hw' hst hns pz jY HW;go_wp2;go_roundg (qN a.ents (fI a) c')
    case measure=>exact PG.out
    case rel=>exact⟨n1+1,G,F',c',dL,out',m,z,rfl,Sn,HW2,HN⟩
  ·rcases hor with⟨h,_⟩|⟨_,rfl,_,_,_,hd⟩
   ·rw[hst]at h;cases h
   ·have hpm:=hw'.adl ug.out (hd.1 hst)
    have hnd:(out'.map av.key).Nodup:=by
     have:=Ce ug.out hw';rw[List.map_map]at this;exact this
    rw[XA hpm hnd]at h2;have Sn:=qd h2;clear h2 hw' hst hns pz jY HW HN HK hd hpm hnd;go_wp2;refine bodyPost_ret (v:= .nilIface) (by simp[results,Tryz.results13,go_sem]) rfl ⟨rfl,G,F',dL,m,z,Sn.out⟩
theorem jV.Nb (h:jV W0 E H Kk M I b G w a ids its gv dK):b∈G:=by
 obtain⟨C,GC,mb,_,rfl,_⟩:=h;exact List.mem_cons_self
theorem ku.Nb (h:ku W0 E H K M I b G w R n its gv):b∈G:=by
 obtain⟨a,ids,dK,h1,_⟩:=h;exact h1.Nb
theorem jV.adw (h:jV W0 E H Kk M I b G w a ids its gv dK):∃cs,aj w b 113 cs:=by
 obtain⟨C,GC,mb,h1,_⟩:=h;exact⟨_,h1.blk.blk⟩
theorem XE (hd:ku W0 E (fE kind) K M I db G w R n [] 0)(hs:jV W0 E (fE kind) K' M' I' sb F w a ids [] 0 dK)(hap:∀q∈G,q∉F)(hf:∀q,q∈G∨q∈F→w0.heap.size≤q)(hbl:Below w0.heap.size w0 w)(hba:W0.heap.size≤w0.heap.size)(hk5:kind≤5)(hp:1≤p∧p≤6)(hI:1≤I')(hW:kT w)(Ak:mg w):
  Calls Tryz.prog 12 #[.pointer (some ⟨db,0,none⟩),.pointer (some ⟨sb,0,none⟩),.int .i64 p,.int .i64 (kind:Int)] w fun y w'=>∃mb cb F',y= .returned (.tuple #[.pointer (some ⟨mb,0,none⟩),.nilIface])∧kN W0 E (fE kind) K M I K' M' I' db sb mb w0 w' G F' a ids [⟨1,cb,⟨0,0,false⟩⟩] 1 dK R n (kP db sb p kind 1 false 0):=by
 have hne:(⟨db,0,none⟩:Addr)≠⟨sb,0,none⟩:=fun h=>hap db hd.Nb (by injection h with h;rw[h];exact hs.Nb)
 have hq:(binOp .eql 42 (.pointer (some ⟨db,0,none⟩)) (.pointer (some ⟨sb,0,none⟩))).run Tryz.prog w= .ok (.bool false) w:=by
  obtain⟨ca,hca⟩:∃cs,aj w db 113 cs:=by
   obtain⟨a',aO,dL,h1,_⟩:=hd;exact h1.adw
  obtain⟨cc,hcc⟩:=hs.adw;obtain⟨j,hj,hjs⟩:∃j,Tryz.prog.info? 113 =some j∧j.size≠0:=⟨_,rfl,by decide⟩;exact run_eql_ptr_other w Tryz.underlying42 hj hjs hne hca hcc
 have hop:=R6 hs (by simp;omega) (by omega);simp only[List.nil_append]at hop;have HO:=qd hop;have CO:=qd (wR p w Ak);obtain⟨s,hs1,hs2⟩:=hW kind hk5;have HMx:=qd (PS kind hk5 s w hs1)
 have hwd:(⟨(jG p).toArray⟩:ByteArray).toList.isEmpty=false:=by
  rw[ByteArray.toList_eq];unfold jG;rw[if_pos hp]
  have:p=1∨p=2∨p=3∨p=4∨p=5∨p=6:=by omega
  rcases this with rfl|rfl|rfl|rfl|rfl|rfl<;>rfl
 obtain⟨sw,hsw⟩:∃sw:ByteArray,sw=⟨(jG p).toArray⟩:=⟨_,rfl⟩;rw[←hsw]at hwd CO;have HQ:=qd (And.intro hd (And.intro hs (And.intro hap (And.intro hf (And.intro hbl hba)))));clear hd hs hap hf hbl hba hI hW Ak hop hs1 hsw hp;go_in;go_wp2_with fail;refine CO.out.mono ?_;rintro y wq ⟨rfl,rfl⟩;clear CO;go_wp2_with fail;refine HMx.out.mono ?_;rintro y wq ⟨rfl,rfl⟩;clear HMx;go_wp2_with fail;refine HO.out.mono ?_;rintro y w1 ⟨cb,rfl,F',h1,h2,h3⟩
 have HX:=qd (show∀w':World,aj w' w1.heap.size 81 (kP db sb p kind 1 false 0)→Below w1.heap.size w1 w'→kN W0 E (fE kind) K M I K' M' I' db sb w1.heap.size w0 w' G F' a ids [⟨1,cb,⟨0,0,false⟩⟩] 1 dK R n (kP db sb p kind 1 false 0)from fun w' hB hb=>by
  obtain⟨g1,g2,g3,g4,g5,g6⟩:=HQ.out;have hd1:=g1.mod h3 (fun q hq=>⟨fun hg=>g3 q hg hq,Nat.le_trans g6 (g4 q (.inr hq))⟩);have hsz:=g5.size;have hsz1:=h3.size;refine⟨hd1.below hb,h1.below hb,hB,fun q hq hq'=> ?_,fun hq=> ?_,fun hq=> ?_,fun q hq=>g4 q (.inl hq),fun q hq=> ?_,by omega,(g5.trans (h3.below (fun q hq=>g4 q (.inr hq)) hsz)).trans (hb.mono (by omega)),g6⟩
  ·rcases h2 q hq' with k|k
   ·exact g3 q hq k
   ·have:=(g1.fH q hq).1;omega
  ·have:=(hd1.fH _ hq).1;omega
  ·have:=(h1.facts.1 _ hq).1;omega
  ·rcases h2 q hq with k|k
   ·exact g4 q (.inr k)
   ·omega)
 clear h1 h2 h3 HQ HO;unfold kP at HX;go_wp2;refine bodyPost_ret (v:= .tuple #[.pointer (some ⟨w1.heap.size,0,none⟩),.nilIface]) (by simp[results,Tryz.results12,go_sem]) rfl ⟨w1.heap.size,cb,F',rfl,HX.out _ (aj.new _ _ _) ((Below.refl _ _).alloc (Nat.le_refl _) _)⟩
end
end Go.Proofs.YtbfpfgfgfjhpfaaGreatDoor
