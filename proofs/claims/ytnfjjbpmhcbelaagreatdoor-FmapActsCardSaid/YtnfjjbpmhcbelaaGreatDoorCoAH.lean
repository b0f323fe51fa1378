/- A dual in memory: Ready, Left, Groups by their contracts. -/
import Derived.Test.YtnfjjbpmhcbelaaGreatDoorCoAG
import Derived.Test.YtnfjjbpmhcbelaaGreatDoorGaugeA
namespace Go.Proofs.YtnfjjbpmhcbelaaGreatDoor
set_option maxRecDepth 100000
set_option maxHeartbeats 4000000
open Go.RowKit dI
def qg (n k i:Nat):Nat:=min n (k-i*n)
def bH (db rb ob og:Nat)(bl:List (Nat×Nat×Nat)):List Nat:=db::rb::ob::og::bl.flatMap fun b=> [b.1,b.2.1,b.2.2]
structure vJ (w:World)(db rb cap ob og:Nat)(bl:List (Nat×Nat×Nat))(T:aC)(n depth k:Nat):Prop where
 blk:aj w db 301 #[pQ ob,nI depth,.slice (some ⟨rb,0,none⟩) bl.length cap,.slice none 0 0,.pointer none,.bool false]
 row:fA w rb (bl.map fun b=>b.1)
 qw:∀(i:Nat) (b:Nat×Nat×Nat),bl[i]?=some b→fH w b.1 b.2.1 b.2.2 n (qg n k i)
 tab:TabAt w ob og T
 pow:Pw n
 many:1≤bl.length∧bl.length≤2
 lt:k<n*bl.length
 deep:depth≤15
 nd:(bH db rb ob og bl).Nodup
def aW (db rb fb eb vb ob og:Nat)(bI:List Nat)(bs:List (Nat×Nat)):List Nat:=db::rb::fb::eb::vb::ob::og::(bI++fM bs)
structure oW (w:World)(db rb cap ob og fb bY eb vb cK:Nat)(bI:List Nat)(bs:List (Nat×Nat))(T:aC)(Ts:List aC)(n depth next:Nat):Prop where
 blk:aj w db 301 #[pQ ob,nI depth,.slice (some ⟨rb,0,none⟩) bI.length cap,.slice (some ⟨fb,0,none⟩) bs.length bY,pQ eb,.bool false]
 row:fA w rb bI
 qw:∀b∈bI,aj w b 337 #[.pointer none,nI n,nI n]
 fresh:fA w fb (bs.map Prod.fst)
 ev:lS w eb ob vb cK (bs.map Prod.fst) depth next
 tab:TabAt w ob og T
 tabs:iw w bs Ts
 pow:Pw n
 many:1≤bs.length∧bs.length≤2
 eq:bI.length=bs.length
 deep:depth≤15
 nd:(aW db rb fb eb vb ob og bI bs).Nodup
section
variable {w w' : World} {db rb cap ob og fb bY eb vb cK : Nat} {bl : List (Nat × Nat × Nat)} {bI : List Nat} {bs : List (Nat × Nat)} {T : aC} {Ts : List aC} {n depth k next : Nat}
theorem vK {b:Nat×Nat×Nat}(h:b∈bl):b.1∈bH db rb ob og bl∧b.2.1∈bH db rb ob og bl∧b.2.2∈bH db rb ob og bl:=by
 have h0:∀q∈[b.1,b.2.1,b.2.2],q∈bl.flatMap fun b=> [b.1,b.2.1,b.2.2]:=fun q hq=>List.mem_flatMap.2 ⟨b,h,hq⟩;have h1:=h0 b.1 (by simp);have h2:=h0 b.2.1 (by simp);have h3:=h0 b.2.2 (by simp);unfold bH;simp only[List.mem_cons];exact⟨.inr (.inr (.inr (.inr h1))),.inr (.inr (.inr (.inr h2))),.inr (.inr (.inr (.inr h3)))⟩
theorem vJ.mod {S:List Nat}(h:vJ w db rb cap ob og bl T n depth k)(hm:Mod S w w')(hs:∀q∈bH db rb ob og bl,q∉S):vJ w' db rb cap ob og bl T n depth k:=
 ⟨h.blk.mod hm (hs _ (by simp[bH])),h.row.mod hm (hs _ (by simp[bH])),fun i b hb=>by
  obtain⟨h1,h2,h3⟩:=vK (db:=db) (rb:=rb) (ob:=ob) (og:=og) (List.mem_of_getElem? hb)
  exact(h.qw i b hb).mod hm (hs _ h1) (hs _ h2) (hs _ h3),
  h.tab.mod hm (hs _ (by simp[bH])) (hs _ (by simp[bH])),h.pow,h.many,h.lt,h.deep,h.nd⟩
theorem oW.mod {S:List Nat}(h:oW w db rb cap ob og fb bY eb vb cK bI bs T Ts n depth next)(hm:Mod S w w')(hs:∀q∈aW db rb fb eb vb ob og bI bs,q∉S):oW w' db rb cap ob og fb bY eb vb cK bI bs T Ts n depth next:=
 ⟨h.blk.mod hm (hs _ (by simp[aW])),h.row.mod hm (hs _ (by simp[aW])),fun b hb=>(h.qw b hb).mod hm (hs _ (by unfold aW;simp[hb])),h.fresh.mod hm (hs _ (by simp[aW])),
  h.ev.mod hm (hs _ (by simp[aW])) (hs _ (by simp[aW])),h.tab.mod hm (hs _ (by simp[aW])) (hs _ (by simp[aW])),
  h.tabs.mod hm (fun b hb=>⟨hs _ (by unfold aW;simp[dM];exact .inr (.inr (.inr (.inr (.inr (.inr (.inr (.inr ⟨_,_,hb,.inl rfl⟩)))))))),hs _ (by unfold aW;simp[dM];exact .inr (.inr (.inr (.inr (.inr (.inr (.inr (.inr ⟨_,_,hb,.inr rfl⟩))))))))⟩),h.pow,h.many,h.eq,h.deep,h.nd⟩
end
def bX (db:Nat):Value:=pQ db
def rQ (n k:Nat):Nat→Nat
 |0=>0
 |j+1=>rQ n k j+(n-qg n k j)
theorem Bv (n k:Nat):∀j,rQ n k j=n*j-min k (n*j)
 |0=>by simp[rQ]
 |j+1=>by
  have h1:=Bv n k j;unfold rQ qg;rw[h1,Nat.mul_comm j n,Nat.mul_succ];generalize n*j=m;omega
theorem wu (db:Nat)(w:World)(h:w.cell? ⟨db,3,none⟩=some (.slice none 0 0)):
  Calls Tryz.prog 210 #[bX db] w fun e w'=>e= .returned (.bool false)∧w=w':=by
 unfold bX;go_in;go_wp2;go_ret;exact⟨rfl,rfl⟩
theorem uK (db fb fn bY:Nat)(w:World)(h:w.cell? ⟨db,3,none⟩=some (.slice (some ⟨fb,0,none⟩) fn bY)):
  Calls Tryz.prog 210 #[bX db] w fun e w'=>e= .returned (.bool true)∧w=w':=by
 unfold bX;go_in;go_wp2;go_ret;exact⟨rfl,rfl⟩
theorem LK (db rb cap ob og:Nat)(bl:List (Nat×Nat×Nat))(T:aC)(n depth k:Nat)(w:World)(h:vJ w db rb cap ob og bl T n depth k)(hgl:T.gs.length≤64):
  Calls Tryz.prog 261 #[bX db] w fun e w'=>e= .returned (.int .i64 ((T.gs.length+(n*bl.length-k):Nat):Int))∧Below w.heap.size w w':=by
 have afu:=h.lt;have HB:=qd (h.blk);have HR:=qd (h.row);have HT:=qd (h.tab);have ah:=qd (Mod.refl [] w);obtain⟨many1,aeN⟩:=h.many;have Ah:=qd (show∀V,Below w.heap.size w V→∀(i:Nat) (b:Nat×Nat×Nat),bl[i]?=some b→fH V b.1 b.2.1 b.2.2 n (qg n k i)from fun V hV i b hb=>(h.qw i b hb).mod (Mod.of_below hV []) (by simp) (by simp) (by simp));have Yx:=h.pow.le;clear h;obtain⟨g0,hg0⟩:∃g0,g0=T.gs.length:=⟨_,rfl⟩;rw[←hg0]at hgl⊢;unfold bX;have bc:=HB.out.c6;have nu:=qd (wu db w bc.2.2.2.1);unfold bX at nu;have HG:=qd (sN ob og T w HT.out);rw[←hg0]at HG;unfold bU at HG;clear hg0;go_in;go_wp2_with fail;refine(nu.out).mono ?_;rintro y w1 ⟨rfl,rfl⟩;clear nu;go_wp2_with fail;refine(HG.out).mono ?_;rintro y w1 ⟨rfl,rfl⟩;clear HG;go_wp2;clear bc;have ad3:=HR;clear HB HR HT ah;go_loopw [3,5,23] (fun v3 _ i wr=>∃j:Nat,j≤bl.length∧i= .int .i64 j∧v3= .int .i64 ((g0+rQ n k j:Nat):Int)∧Below w.heap.size w wr) (fun _ _ i _=>bl.length-(intOf i).toNat)
 case atStart=>exact⟨0,by omega,rfl,by simp[rQ],Below.refl _ _⟩
 case round=>
  obtain⟨j,hj,rfl,rfl,hm⟩:=hrel;by_cases hlt:j<bl.length
  ·have hlt':(j:Int)<(bl.length:Int):=by omega
   have hj0:(0:Int)≤(j:Int):=by omega
   obtain⟨b,hb⟩:∃b,bl[j]?=some b:=⟨_,List.getElem?_eq_getElem hlt⟩;have hbl:=Ah.out wr hm j b hb;have hc:=(ad3.out.mod (Mod.of_below hm []) (by simp)).at_ j b.1 (by rw[List.getElem?_map,hb];rfl);have hkl:qg n k j≤n:=Nat.min_le_left _ _
   have hsl:rQ n k j≤128:=by rw[Bv];have:n*j≤64*2:=Nat.mul_le_mul Yx (by omega);omega
   have HC:=qd (sS b.1 n (qg n k j) _ wr hkl Yx hbl.blk);unfold ou at HC;have Hm:=qd hm;clear hm hb hbl;go_wp2_with fail;refine(HC.out).mono ?_;rintro y w2 ⟨rfl,hw2⟩;have Vs:=qd (show Below w.heap.size w w2 from by rw[←hw2];exact Hm.out.trans ((Below.refl _ _).drew.mono Hm.out.size));clear hw2;go_wp2;go_roundw
   case rel=>exact⟨j+1,by omega,by go_num,by first|go_num|(simp[rQ];omega),Vs.out⟩
   case measure=>simp[intOf];omega
  ·obtain rfl:j=bl.length:=by omega
   have hlt':¬(bl.length:Int)<(bl.length:Int):=by omega
   go_wp2;go_ret;exact⟨gJ (by have:=Bv n k bl.length;omega),hm⟩
theorem qO (db rb cap ob og fb bY eb vb cK:Nat)(bI:List Nat)(bs:List (Nat×Nat))(T:aC)(Ts:List aC)(n depth next:Nat)(w:World)(h:oW w db rb cap ob og fb bY eb vb cK bI bs T Ts n depth next)(hgl:T.gs.length≤64)(hnx:next≤T.gs.length):
  Calls Tryz.prog 261 #[bX db] w fun e w'=>e= .returned (.int .i64 ((T.gs.length-next:Nat):Int))∧w.drew=w':=by
 have bc3:=h.blk.cell 3;have bc4:=h.blk.cell 4;simp only[gl]at bc3 bc4;have nu:=qd (uK db fb bs.length bY w bc3);have HL:=qd (KG eb ob og vb cK _ depth next T w h.ev h.tab hnx hgl);unfold bX at nu⊢;clear h;go_in;go_wp2_with fail;refine(nu.out).mono ?_;rintro y w1 ⟨rfl,rfl⟩;go_wp2_with fail;refine(HL.out).mono ?_;rintro y w1 ⟨rfl,rfl⟩;go_wp2;go_ret;exact⟨rfl,rfl⟩
end Go.Proofs.YtnfjjbpmhcbelaaGreatDoor
