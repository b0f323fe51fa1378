/- A dual in memory: Ready, Left, Groups by their contracts. -/
import Derived.Test.YtkkibocdfijnhaaGreatDoorCoAG
import Derived.Test.YtkkibocdfijnhaaGreatDoorLaneP
namespace Go.Proofs.YtkkibocdfijnhaaGreatDoor
set_option maxRecDepth 100000
set_option maxHeartbeats 4000000
open Go.RowKit bV
def pI (n k i:Nat):Nat:=min n (k-i*n)
def bI (db rb ob og:Nat)(bl:List (Nat×Nat×Nat)):List Nat:=db::rb::ob::og::bl.flatMap fun b=> [b.1,b.2.1,b.2.2]
structure uU (w:World)(db rb cap ob og:Nat)(bl:List (Nat×Nat×Nat))(T:aC)(n depth k:Nat):Prop where
 blk:aj w db 269 #[pQ ob,nI depth,.slice (some ⟨rb,0,none⟩) bl.length cap,.slice none 0 0,.pointer none,.bool false]
 row:fD w rb (bl.map fun b=>b.1)
 nZ:∀(i:Nat) (b:Nat×Nat×Nat),bl[i]?=some b→fP w b.1 b.2.1 b.2.2 n (pI n k i)
 tab:TabAt w ob og T
 pow:Pw n
 many:1≤bl.length∧bl.length≤2
 lt:k<n*bl.length
 deep:depth≤15
 nd:(bI db rb ob og bl).Nodup
def aW (db rb fb eb vb ob og:Nat)(bA:List Nat)(bs:List (Nat×Nat)):List Nat:=db::rb::fb::eb::vb::ob::og::(bA++gD bs)
structure oJ (w:World)(db rb cap ob og fb cu eb vb cO:Nat)(bA:List Nat)(bs:List (Nat×Nat))(T:aC)(Ts:List aC)(n depth next:Nat):Prop where
 blk:aj w db 269 #[pQ ob,nI depth,.slice (some ⟨rb,0,none⟩) bA.length cap,.slice (some ⟨fb,0,none⟩) bs.length cu,pQ eb,.bool false]
 row:fD w rb bA
 nZ:∀b∈bA,aj w b 298 #[.pointer none,nI n,nI n]
 fresh:fD w fb (bs.map Prod.fst)
 ev:lQ w eb ob vb cO (bs.map Prod.fst) depth next
 tab:TabAt w ob og T
 tabs:iB w bs Ts
 pow:Pw n
 many:1≤bs.length∧bs.length≤2
 eq:bA.length=bs.length
 deep:depth≤15
 nd:(aW db rb fb eb vb ob og bA bs).Nodup
section
variable {w w' : World} {db rb cap ob og fb cu eb vb cO : Nat} {bl : List (Nat × Nat × Nat)} {bA : List Nat} {bs : List (Nat × Nat)} {T : aC} {Ts : List aC} {n depth k next : Nat}
theorem uV {b:Nat×Nat×Nat}(h:b∈bl):b.1∈bI db rb ob og bl∧b.2.1∈bI db rb ob og bl∧b.2.2∈bI db rb ob og bl:=by
 have h0:∀q∈[b.1,b.2.1,b.2.2],q∈bl.flatMap fun b=> [b.1,b.2.1,b.2.2]:=fun q hq=>List.mem_flatMap.2 ⟨b,h,hq⟩;have h1:=h0 b.1 (by simp);have h2:=h0 b.2.1 (by simp);have h3:=h0 b.2.2 (by simp);unfold bI;simp only[List.mem_cons];exact⟨.inr (.inr (.inr (.inr h1))),.inr (.inr (.inr (.inr h2))),.inr (.inr (.inr (.inr h3)))⟩
theorem uU.mod {S:List Nat}(h:uU w db rb cap ob og bl T n depth k)(hm:Mod S w w')(hs:∀q∈bI db rb ob og bl,q∉S):uU w' db rb cap ob og bl T n depth k:=
 ⟨h.blk.mod hm (hs _ (by simp[bI])),h.row.mod hm (hs _ (by simp[bI])),fun i b hb=>by
  obtain⟨h1,h2,h3⟩:=uV (db:=db) (rb:=rb) (ob:=ob) (og:=og) (List.mem_of_getElem? hb)
  exact(h.nZ i b hb).mod hm (hs _ h1) (hs _ h2) (hs _ h3),
  h.tab.mod hm (hs _ (by simp[bI])) (hs _ (by simp[bI])),h.pow,h.many,h.lt,h.deep,h.nd⟩
theorem oJ.mod {S:List Nat}(h:oJ w db rb cap ob og fb cu eb vb cO bA bs T Ts n depth next)(hm:Mod S w w')(hs:∀q∈aW db rb fb eb vb ob og bA bs,q∉S):oJ w' db rb cap ob og fb cu eb vb cO bA bs T Ts n depth next:=
 ⟨h.blk.mod hm (hs _ (by simp[aW])),h.row.mod hm (hs _ (by simp[aW])),fun b hb=>(h.nZ b hb).mod hm (hs _ (by unfold aW;simp[hb])),h.fresh.mod hm (hs _ (by simp[aW])),
  h.ev.mod hm (hs _ (by simp[aW])) (hs _ (by simp[aW])),h.tab.mod hm (hs _ (by simp[aW])) (hs _ (by simp[aW])),
  h.tabs.mod hm (fun b hb=>⟨hs _ (by unfold aW;simp[dQ];exact .inr (.inr (.inr (.inr (.inr (.inr (.inr (.inr ⟨_,_,hb,.inl rfl⟩)))))))),hs _ (by unfold aW;simp[dQ];exact .inr (.inr (.inr (.inr (.inr (.inr (.inr (.inr ⟨_,_,hb,.inr rfl⟩))))))))⟩),h.pow,h.many,h.eq,h.deep,h.nd⟩
end
def bO (db:Nat):Value:=pQ db
def qK (n k:Nat):Nat→Nat
 |0=>0
 |j+1=>qK n k j+(n-pI n k j)
theorem AL (n k:Nat):∀j,qK n k j=n*j-min k (n*j)
 |0=>by simp[qK]
 |j+1=>by
  have h1:=AL n k j;unfold qK pI;rw[h1,Nat.mul_comm j n,Nat.mul_succ];generalize n*j=m;omega
theorem vK (db:Nat)(w:World)(h:w.cell? ⟨db,3,none⟩=some (.slice none 0 0)):
  Calls Tryz.prog 182 #[bO db] w fun e w'=>e= .returned (.bool false)∧w=w':=by
 unfold bO;go_in;go_wp2;go_ret;exact⟨rfl,rfl⟩
theorem tY (db fb fn cu:Nat)(w:World)(h:w.cell? ⟨db,3,none⟩=some (.slice (some ⟨fb,0,none⟩) fn cu)):
  Calls Tryz.prog 182 #[bO db] w fun e w'=>e= .returned (.bool true)∧w=w':=by
 unfold bO;go_in;go_wp2;go_ret;exact⟨rfl,rfl⟩
theorem La (db rb cap ob og:Nat)(bl:List (Nat×Nat×Nat))(T:aC)(n depth k:Nat)(w:World)(h:uU w db rb cap ob og bl T n depth k)(hgl:T.gs.length≤64):
  Calls Tryz.prog 228 #[bO db] w fun e w'=>e= .returned (.int .i64 ((T.gs.length+(n*bl.length-k):Nat):Int))∧Below w.heap.size w w':=by
 have afi:=h.lt;have HB:=qd (h.blk);have HR:=qd (h.row);have HT:=qd (h.tab);have ah:=qd (Mod.refl [] w);obtain⟨many1,aeE⟩:=h.many;have xC:=qd (show∀V,Below w.heap.size w V→∀(i:Nat) (b:Nat×Nat×Nat),bl[i]?=some b→fP V b.1 b.2.1 b.2.2 n (pI n k i)from fun V hV i b hb=>(h.nZ i b hb).mod (Mod.of_below hV []) (by simp) (by simp) (by simp));have MI:=h.pow.le;clear h;obtain⟨g0,hg0⟩:∃g0,g0=T.gs.length:=⟨_,rfl⟩;rw[←hg0]at hgl⊢;unfold bO;have bc:=HB.out.c6;have l9:=qd (vK db w bc.2.2.2.1);unfold bO at l9;have HG:=qd (mJ ob og T w HT.out);rw[←hg0]at HG;unfold bQ at HG;clear hg0;go_in;go_wp2_with fail;refine(l9.out).mono ?_;rintro y w1 ⟨rfl,rfl⟩;clear l9;go_wp2_with fail;refine(HG.out).mono ?_;rintro y w1 ⟨rfl,rfl⟩;clear HG;go_wp2;clear bc;have XL:=HR;clear HB HR HT ah;go_loopw [3,5,23] (fun v3 _ i wr=>∃j:Nat,j≤bl.length∧i= .int .i64 j∧v3= .int .i64 ((g0+qK n k j:Nat):Int)∧Below w.heap.size w wr) (fun _ _ i _=>bl.length-(intOf i).toNat)
 case atStart=>exact⟨0,by omega,rfl,by simp[qK],Below.refl _ _⟩
 case round=>
  obtain⟨j,hj,rfl,rfl,hm⟩:=hrel;by_cases hlt:j<bl.length
  ·have hlt':(j:Int)<(bl.length:Int):=by omega
   have hj0:(0:Int)≤(j:Int):=by omega
   obtain⟨b,hb⟩:∃b,bl[j]?=some b:=⟨_,List.getElem?_eq_getElem hlt⟩;have hbl:=xC.out wr hm j b hb;have hc:=(XL.out.mod (Mod.of_below hm []) (by simp)).at_ j b.1 (by rw[List.getElem?_map,hb];rfl);have hkl:pI n k j≤n:=Nat.min_le_left _ _
   have hsl:qK n k j≤128:=by rw[AL];have:n*j≤64*2:=Nat.mul_le_mul MI (by omega);omega
   have HC:=qd (rM b.1 n (pI n k j) _ wr hkl MI hbl.blk);unfold lN at HC;have Hm:=qd hm;clear hm hb hbl;go_wp2_with fail;refine(HC.out).mono ?_;rintro y w2 ⟨rfl,hw2⟩;have Uo:=qd (show Below w.heap.size w w2 from by rw[←hw2];exact Hm.out.trans ((Below.refl _ _).drew.mono Hm.out.size));clear hw2;go_wp2;go_roundw
   case rel=>exact⟨j+1,by omega,by go_num,by first|go_num|(simp[qK];omega),Uo.out⟩
   case measure=>simp[intOf];omega
  ·obtain rfl:j=bl.length:=by omega
   have hlt':¬(bl.length:Int)<(bl.length:Int):=by omega
   go_wp2;go_ret;exact⟨fQ (by have:=AL n k bl.length;omega),hm⟩
theorem EB (db rb cap ob og:Nat)(bA:List Nat)(T:aC)(n:Nat)(dep fr mv tk:Value)(MI:n≤64)(h2:bA.length≤2)(hgl:T.gs.length≤64)(w:World)
  (hblk:aj w db 269 #[pQ ob,dep,.slice (some ⟨rb,0,none⟩) bA.length cap,fr,mv,tk]) (hrow:fD w rb bA) (hb:∀b∈bA,∃(p:Value) (k':Nat),aj w b 298 #[p,nI n,nI k']) (htab:TabAt w ob og T):
  Calls Tryz.prog 126 #[bO db] w fun e w'=>e= .returned (.int .i64 ((T.gs.length+n*bA.length:Nat):Int))∧w=w':=by
 have HB:=qd (hblk);have HR:=qd (hrow);have HT:=qd (htab);have ah:=qd (Mod.refl [] w);have xC:=qd hb;clear hblk hrow htab hb;obtain⟨g0,hg0⟩:∃g0,g0=T.gs.length:=⟨_,rfl⟩;rw[←hg0]at hgl⊢;unfold bO;have bc:=HB.out.c6;have HG:=qd (mJ ob og T w HT.out);rw[←hg0]at HG;unfold bQ at HG;clear hg0;go_in;go_wp2_with fail;refine(HG.out).mono ?_;rintro y w1 ⟨rfl,rfl⟩;clear HG;go_wp2;clear bc;have XL:=HR;clear HB HR HT ah;go_loopw [3,5,16] (fun v3 _ i wr=>∃j:Nat,j≤bA.length∧i= .int .i64 j∧v3= .int .i64 ((g0+n*j:Nat):Int)∧w=wr) (fun _ _ i _=>bA.length-(intOf i).toNat)
 case atStart=>exact⟨0,by omega,rfl,by simp,by first|exact rfl|trivial⟩
 case round=>
  obtain⟨j,hj,rfl,rfl,rfl⟩:=hrel;by_cases hlt:j<bA.length
  ·have hlt':(j:Int)<(bA.length:Int):=by omega
   have hj0:(0:Int)≤(j:Int):=by omega
   obtain⟨b,hb⟩:∃b,bA[j]?=some b:=⟨_,List.getElem?_eq_getElem hlt⟩;obtain⟨p,k',hbl⟩:=xC.out b (List.mem_of_getElem? hb);have hc:=XL.out.at_ j b hb
   have hsl:n*j≤128:=by have:n*j≤64*2:=Nat.mul_le_mul MI (by omega);omega
   have hsm:n*(j+1)=n*j+n:=Nat.mul_succ _ _;have HC:=qd (MS b n k' p w hbl);unfold lN at HC;clear hb hbl;go_wp2_with fail;refine(HC.out).mono ?_;rintro y w2 ⟨rfl,rfl⟩;go_wp2;go_roundw
   case rel=>exact⟨j+1,by omega,by go_num,by first|go_num|(simp;omega),by first|exact rfl|trivial⟩
   case measure=>simp[intOf];omega
  ·obtain rfl:j=bA.length:=by omega
   have hlt':¬(bA.length:Int)<(bA.length:Int):=by omega
   go_wp2;go_ret;exact⟨rfl,rfl⟩
theorem qj (db rb cap ob og fb cu eb vb cO:Nat)(bA:List Nat)(bs:List (Nat×Nat))(T:aC)(Ts:List aC)(n depth next:Nat)(w:World)(h:oJ w db rb cap ob og fb cu eb vb cO bA bs T Ts n depth next)(hgl:T.gs.length≤64)(hnx:next≤T.gs.length):
  Calls Tryz.prog 228 #[bO db] w fun e w'=>e= .returned (.int .i64 ((T.gs.length-next:Nat):Int))∧w.drew=w':=by
 have bc3:=h.blk.cell 3;have bc4:=h.blk.cell 4;simp only[gl]at bc3 bc4;have l9:=qd (tY db fb bs.length cu w bc3);have HL:=qd (J4 eb ob og vb cO _ depth next T w h.ev h.tab hnx hgl);unfold bO at l9⊢;clear h;go_in;go_wp2_with fail;refine(l9.out).mono ?_;rintro y w1 ⟨rfl,rfl⟩;go_wp2_with fail;refine(HL.out).mono ?_;rintro y w1 ⟨rfl,rfl⟩;go_wp2;go_ret;exact⟨rfl,rfl⟩
end Go.Proofs.YtkkibocdfijnhaaGreatDoor
