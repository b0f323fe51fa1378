/- A dual in memory: Ready, Left, Groups by their contracts. -/
import Derived.Test.YtchlkhkeonnmdacGreatDoorCoAG
import Derived.Test.YtchlkhkeonnmdacGreatDoorLaneP
namespace Go.Proofs.YtchlkhkeonnmdacGreatDoor
set_option maxRecDepth 100000
set_option maxHeartbeats 4000000
open Go.RowKit AmC
def kOf (n k i:Nat):Nat:=min n (k-i*n)
def footB (db rb ob og:Nat)(bl:List (Nat×Nat×Nat)):List Nat:=db::rb::ob::og::bl.flatMap fun b=> [b.1,b.2.1,b.2.2]
structure DuB (w:World)(db rb cap ob og:Nat)(bl:List (Nat×Nat×Nat))(T:TabM)(n depth k:Nat):Prop where
 blk:Blk w db 274 #[.pointer (some ⟨ob,0,none⟩),.int .i64 (depth:Int),.slice (some ⟨rb,0,none⟩) bl.length cap,.slice none 0 0,.pointer none,.bool false]
 row:RowAt w rb (bl.map fun b=>b.1)
 blds:∀(i:Nat) (b:Nat×Nat×Nat),bl[i]?=some b→BldAt w b.1 b.2.1 b.2.2 n (kOf n k i)
 tab:TabAt w ob og T
 pow:Pw n
 many:1≤bl.length∧bl.length≤2
 lt:k<n*bl.length
 deep:depth≤15
 nd:(footB db rb ob og bl).Nodup
def footM (db rb fb eb vb ob og:Nat)(bbs:List Nat)(bs:List (Nat×Nat)):List Nat:=db::rb::fb::eb::vb::ob::og::(bbs++flatB bs)
structure DuM (w:World)(db rb cap ob og fb fcap eb vb vcap:Nat)(bbs:List Nat)(bs:List (Nat×Nat))(T:TabM)(Ts:List TabM)(n depth next:Nat):Prop where
 blk:Blk w db 274 #[.pointer (some ⟨ob,0,none⟩),.int .i64 (depth:Int),.slice (some ⟨rb,0,none⟩) bbs.length cap,.slice (some ⟨fb,0,none⟩) bs.length fcap,.pointer (some ⟨eb,0,none⟩),.bool false]
 row:RowAt w rb bbs
 blds:∀b∈bbs,Blk w b 313 #[.pointer none,.int .i64 (n:Int),.int .i64 (n:Int)]
 fresh:RowAt w fb (bs.map Prod.fst)
 ev:EvAt w eb ob vb vcap (bs.map Prod.fst) depth next
 tab:TabAt w ob og T
 tabs:TabsAt w bs Ts
 pow:Pw n
 many:1≤bs.length∧bs.length≤2
 eq:bbs.length=bs.length
 deep:depth≤15
 nd:(footM db rb fb eb vb ob og bbs bs).Nodup
section
variable {w w' : World} {db rb cap ob og fb fcap eb vb vcap : Nat} {bl : List (Nat × Nat × Nat)} {bbs : List Nat} {bs : List (Nat × Nat)} {T : TabM} {Ts : List TabM} {n depth k next : Nat}
theorem mem_footB {b:Nat×Nat×Nat}(h:b∈bl):b.1∈footB db rb ob og bl∧b.2.1∈footB db rb ob og bl∧b.2.2∈footB db rb ob og bl:=by
 have h0:∀q∈[b.1,b.2.1,b.2.2],q∈bl.flatMap fun b=> [b.1,b.2.1,b.2.2]:=fun q hq=>List.mem_flatMap.2 ⟨b,h,hq⟩;have h1:=h0 b.1 (by simp);have h2:=h0 b.2.1 (by simp);have h3:=h0 b.2.2 (by simp);unfold footB;simp only[List.mem_cons];exact⟨.inr (.inr (.inr (.inr h1))),.inr (.inr (.inr (.inr h2))),.inr (.inr (.inr (.inr h3)))⟩
theorem DuB.mod {S:List Nat}(h:DuB w db rb cap ob og bl T n depth k)(hm:Mod S w w')(hs:∀q∈footB db rb ob og bl,q∉S):DuB w' db rb cap ob og bl T n depth k:=
 ⟨h.blk.mod hm (hs _ (by simp[footB])),h.row.mod hm (hs _ (by simp[footB])),fun i b hb=>by
  obtain⟨h1,h2,h3⟩:=mem_footB (db:=db) (rb:=rb) (ob:=ob) (og:=og) (List.mem_of_getElem? hb)
  exact(h.blds i b hb).mod hm (hs _ h1) (hs _ h2) (hs _ h3),
  h.tab.mod hm (hs _ (by simp[footB])) (hs _ (by simp[footB])),h.pow,h.many,h.lt,h.deep,h.nd⟩
theorem DuM.mod {S:List Nat}(h:DuM w db rb cap ob og fb fcap eb vb vcap bbs bs T Ts n depth next)(hm:Mod S w w')(hs:∀q∈footM db rb fb eb vb ob og bbs bs,q∉S):DuM w' db rb cap ob og fb fcap eb vb vcap bbs bs T Ts n depth next:=
 ⟨h.blk.mod hm (hs _ (by simp[footM])),h.row.mod hm (hs _ (by simp[footM])),fun b hb=>(h.blds b hb).mod hm (hs _ (by unfold footM;simp[hb])),h.fresh.mod hm (hs _ (by simp[footM])),
  h.ev.mod hm (hs _ (by simp[footM])) (hs _ (by simp[footM])),h.tab.mod hm (hs _ (by simp[footM])) (hs _ (by simp[footM])),
  h.tabs.mod hm (fun b hb=>⟨hs _ (by unfold footM;simp[mem_flatB];exact .inr (.inr (.inr (.inr (.inr (.inr (.inr (.inr ⟨_,_,hb,.inl rfl⟩)))))))),hs _ (by unfold footM;simp[mem_flatB];exact .inr (.inr (.inr (.inr (.inr (.inr (.inr (.inr ⟨_,_,hb,.inr rfl⟩))))))))⟩),h.pow,h.many,h.eq,h.deep,h.nd⟩
end
def dualP (db:Nat):Value:= .pointer (some ⟨db,0,none⟩)
def sumLeft (n k:Nat):Nat→Nat
 |0=>0
 |j+1=>sumLeft n k j+(n-kOf n k j)
theorem sumLeft_eq (n k:Nat):∀j,sumLeft n k j=n*j-min k (n*j)
 |0=>by simp[sumLeft]
 |j+1=>by
  have h1:=sumLeft_eq n k j;unfold sumLeft kOf;rw[h1,Nat.mul_comm j n,Nat.mul_succ];generalize n*j=m;omega
theorem dual_Ready_no (db:Nat)(w:World)(h:w.cell? ⟨db,3,none⟩=some (.slice none 0 0)):
  Calls Tryz.prog 168 #[dualP db] w fun e w'=>e= .returned (.bool false)∧w=w':=by
 unfold dualP;go_in;go_wp2;go_ret;exact⟨rfl,rfl⟩
theorem dual_Ready_yes (db fb fn fcap:Nat)(w:World)(h:w.cell? ⟨db,3,none⟩=some (.slice (some ⟨fb,0,none⟩) fn fcap)):
  Calls Tryz.prog 168 #[dualP db] w fun e w'=>e= .returned (.bool true)∧w=w':=by
 unfold dualP;go_in;go_wp2;go_ret;exact⟨rfl,rfl⟩
theorem dual_Left_bld (db rb cap ob og:Nat)(bl:List (Nat×Nat×Nat))(T:TabM)(n depth k:Nat)(w:World)(h:DuB w db rb cap ob og bl T n depth k)(hgl:T.gs.length≤64):
  Calls Tryz.prog 217 #[dualP db] w fun e w'=>e= .returned (.int .i64 ((T.gs.length+(n*bl.length-k):Nat):Int))∧Below w.heap.size w w':=by
 have hkl0:=h.lt;have HB:=qd (h.blk);have HR:=qd (h.row);have HT:=qd (h.tab);have Hmod:=qd (Mod.refl [] w);obtain⟨many1,many2⟩:=h.many;have HBl:=qd (show∀V,Below w.heap.size w V→∀(i:Nat) (b:Nat×Nat×Nat),bl[i]?=some b→BldAt V b.1 b.2.1 b.2.2 n (kOf n k i)from fun V hV i b hb=>(h.blds i b hb).mod (Mod.of_below hV []) (by simp) (by simp) (by simp));have hn64:=h.pow.le;clear h;obtain⟨g0,hg0⟩:∃g0,g0=T.gs.length:=⟨_,rfl⟩;rw[←hg0]at hgl⊢;unfold dualP;have bc:=HB.out.c6;have HRd:=qd (dual_Ready_no db w bc.2.2.2.1);unfold dualP at HRd;have HG:=qd (table_Groups ob og T w HT.out);rw[←hg0]at HG;unfold tabP at HG;clear hg0;go_in;go_wp2_with fail;refine(HRd.out).mono ?_;rintro y w1 ⟨rfl,rfl⟩;clear HRd;go_wp2_with fail;refine(HG.out).mono ?_;rintro y w1 ⟨rfl,rfl⟩;clear HG;go_wp2;clear bc;have HRow:=HR;clear HB HR HT Hmod;go_loopw [3,5,23] (fun v3 _ i wr=>∃j:Nat,j≤bl.length∧i= .int .i64 j∧v3= .int .i64 ((g0+sumLeft n k j:Nat):Int)∧Below w.heap.size w wr) (fun _ _ i _=>bl.length-(intOf i).toNat)
 case atStart=>exact⟨0,by omega,rfl,by simp[sumLeft],Below.refl _ _⟩
 case round=>
  obtain⟨j,hj,rfl,rfl,hm⟩:=hrel;by_cases hlt:j<bl.length
  ·have hlt':(j:Int)<(bl.length:Int):=by omega
   have hj0:(0:Int)≤(j:Int):=by omega
   obtain⟨b,hb⟩:∃b,bl[j]?=some b:=⟨_,List.getElem?_eq_getElem hlt⟩;have hbl:=HBl.out wr hm j b hb;have hc:=(HRow.out.mod (Mod.of_below hm []) (by simp)).at_ j b.1 (by rw[List.getElem?_map,hb];rfl);have hkl:kOf n k j≤n:=Nat.min_le_left _ _
   have hsl:sumLeft n k j≤128:=by rw[sumLeft_eq];have:n*j≤64*2:=Nat.mul_le_mul hn64 (by omega);omega
   have HC:=qd (build_Left b.1 n (kOf n k j) _ wr hkl hn64 hbl.blk);unfold bldP at HC;have Hm:=qd hm;clear hm hb hbl;go_wp2_with fail;refine(HC.out).mono ?_;rintro y w2 ⟨rfl,hw2⟩;have Hm2:=qd (show Below w.heap.size w w2 from by rw[←hw2];exact Hm.out.trans ((Below.refl _ _).drew.mono Hm.out.size));clear hw2;go_wp2;go_roundw
   case rel=>exact⟨j+1,by omega,by go_num,by first|go_num|(simp[sumLeft];omega),Hm2.out⟩
   case measure=>simp[intOf];omega
  ·obtain rfl:j=bl.length:=by omega
   have hlt':¬(bl.length:Int)<(bl.length:Int):=by omega
   go_wp2;go_ret;exact⟨ret_int (by have:=sumLeft_eq n k bl.length;omega),hm⟩
theorem dual_Left_mov (db rb cap ob og fb fcap eb vb vcap:Nat)(bbs:List Nat)(bs:List (Nat×Nat))(T:TabM)(Ts:List TabM)(n depth next:Nat)(w:World)(h:DuM w db rb cap ob og fb fcap eb vb vcap bbs bs T Ts n depth next)(hgl:T.gs.length≤64)(hnx:next≤T.gs.length):
  Calls Tryz.prog 217 #[dualP db] w fun e w'=>e= .returned (.int .i64 ((T.gs.length-next:Nat):Int))∧w.drew=w':=by
 have bc3:=h.blk.cell 3;have bc4:=h.blk.cell 4;simp only[gl]at bc3 bc4;have HRd:=qd (dual_Ready_yes db fb bs.length fcap w bc3);have HL:=qd (evac_Left eb ob og vb vcap _ depth next T w h.ev h.tab hnx hgl);unfold dualP at HRd⊢;clear h;go_in;go_wp2_with fail;refine(HRd.out).mono ?_;rintro y w1 ⟨rfl,rfl⟩;go_wp2_with fail;refine(HL.out).mono ?_;rintro y w1 ⟨rfl,rfl⟩;go_wp2;go_ret;exact⟨rfl,rfl⟩
end Go.Proofs.YtchlkhkeonnmdacGreatDoor
