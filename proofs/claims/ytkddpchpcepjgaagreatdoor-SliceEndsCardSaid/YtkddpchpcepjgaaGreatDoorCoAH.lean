/- A dual in memory: Ready, Left, Groups by their contracts. -/
import Derived.Test.YtkddpchpcepjgaaGreatDoorCoAG
namespace Go.Proofs.YtkddpchpcepjgaaGreatDoor
set_option maxRecDepth 100000
set_option maxHeartbeats 4000000
open Go.RowKit cu
def qK (n k i:Nat):Nat:=min n (k-i*n)
def bL (db rb ob og:Nat)(bl:List (Nat×Nat×Nat)):List Nat:=db::rb::ob::og::bl.flatMap λb=> [b.1,b.2.1,b.2.2]
structure wG (w:World)(db rb cap ob og:Nat)(bl:List (Nat×Nat×Nat))(T:aC)(n depth k:Nat):Prop where
 blk:aj w db 284 #[pQ ob,nI depth,.slice (some ⟨rb,0,none⟩) bl.length cap,.slice none 0 0,.pointer none,.bool false]
 row:fO w rb (bl.map λb=>b.1)
 pq:∀(i:Nat) (b:Nat×Nat×Nat),bl[i]?=some b->gB w b.1 b.2.1 b.2.2 n (qK n k i)
 tab:TabAt w ob og T
 pow:Pw n
 many:1<=bl.length/\bl.length<=2
 lt:k<n*bl.length
 deep:depth<=15
 nd:(bL db rb ob og bl).Nodup
def aW (db rb fb eb vb ob og:Nat)(bC:List Nat)(bs:List (Nat×Nat)):List Nat:=db::rb::fb::eb::vb::ob::og::(bC++gT bs)
structure pY (w:World)(db rb cap ob og fb cB eb vb dw:Nat)(bC:List Nat)(bs:List (Nat×Nat))(T:aC)(Ts:List aC)(n depth next:Nat):Prop where
 blk:aj w db 284 #[pQ ob,nI depth,.slice (some ⟨rb,0,none⟩) bC.length cap,.slice (some ⟨fb,0,none⟩) bs.length cB,pQ eb,.bool false]
 row:fO w rb bC
 pq:∀b∈bC,aj w b 313 #[.pointer none,nI n,nI n]
 fresh:fO w fb (bs.map Prod.fst)
 ev:mW w eb ob vb dw (bs.map Prod.fst) depth next
 tab:TabAt w ob og T
 tabs:iR w bs Ts
 pow:Pw n
 many:1<=bs.length/\bs.length<=2
 eq:bC.length=bs.length
 deep:depth<=15
 nd:(aW db rb fb eb vb ob og bC bs).Nodup
section
variable {w w' : World} {db rb cap ob og fb cB eb vb dw : Nat} {bl : List (Nat × Nat × Nat)} {bC : List Nat} {bs : List (Nat × Nat)} {T : aC} {Ts : List aC} {n depth k next : Nat}
theorem wH {b:Nat×Nat×Nat}(h:b∈bl):b.1∈bL db rb ob og bl/\b.2.1∈bL db rb ob og bl/\b.2.2∈bL db rb ob og bl:=by
 have h0:∀q∈[b.1,b.2.1,b.2.2],q∈bl.flatMap λb=> [b.1,b.2.1,b.2.2]:=λq hq=>jz.2 ⟨b,h,hq⟩;have h1:=h0 b.1 (by simp);have h2:=h0 b.2.1 (by simp);have h3:=h0 b.2.2 (by simp);unfold bL;simp only[zt];exact⟨.inr (.inr (.inr (.inr h1))),.inr (.inr (.inr (.inr h2))),.inr (.inr (.inr (.inr h3)))⟩
theorem wG.mod {S:List Nat}(h:wG w db rb cap ob og bl T n depth k)(hm:Mod S w w')(hs:∀q∈bL db rb ob og bl,q∉S):wG w' db rb cap ob og bl T n depth k:=
 ⟨h.blk.mod hm (hs _ (by simp[bL])),h.row.mod hm (hs _ (by simp[bL])),λi b hb=>by
  obtain⟨h1,h2,h3⟩:=wH (db:=db) (rb:=rb) (ob:=ob) (og:=og) (zE hb)
  exact(h.pq i b hb).mod hm (hs _ h1) (hs _ h2) (hs _ h3),
  h.tab.mod hm (hs _ (by simp[bL])) (hs _ (by simp[bL])),h.pow,h.many,h.lt,h.deep,h.nd⟩
theorem pY.mod {S:List Nat}(h:pY w db rb cap ob og fb cB eb vb dw bC bs T Ts n depth next)(hm:Mod S w w')(hs:∀q∈aW db rb fb eb vb ob og bC bs,q∉S):pY w' db rb cap ob og fb cB eb vb dw bC bs T Ts n depth next:=
 ⟨h.blk.mod hm (hs _ (by simp[aW])),h.row.mod hm (hs _ (by simp[aW])),λb hb=>(h.pq b hb).mod hm (hs _ (by unfold aW;simp[hb])),h.fresh.mod hm (hs _ (by simp[aW])),
  h.ev.mod hm (hs _ (by simp[aW])) (hs _ (by simp[aW])),h.tab.mod hm (hs _ (by simp[aW])) (hs _ (by simp[aW])),
  h.tabs.mod hm (λb hb=>⟨hs _ (by unfold aW;simp[dV];exact .inr (.inr (.inr (.inr (.inr (.inr (.inr (.inr ⟨_,_,hb,.inl rfl⟩)))))))),hs _ (by unfold aW;simp[dV];exact .inr (.inr (.inr (.inr (.inr (.inr (.inr (.inr ⟨_,_,hb,.inr rfl⟩))))))))⟩),h.pow,h.many,h.eq,h.deep,h.nd⟩
end
def bQ (db:Nat):Value:=pQ db
def sj (n k:Nat):Nat->Nat
 |0=>0
 |j+1=>sj n k j+(n-qK n k j)
theorem Ck (n k:Nat):∀j,sj n k j=n*j-min k (n*j)
 |0=>by simp[sj]
 |j+1=>by
  have h1:=Ck n k j;unfold sj qK;rw[h1,vr j n,Nat.mul_succ];generalize n*j=m;omega
theorem xq (db:Nat)(w:World)(h:w.cell? ⟨db,3,none⟩=some (.slice none 0 0)):
  Calls Tryz.prog 194 #[bQ db] w λe w'=>e= .returned (.bool false)/\w=w':=by
 unfold bQ;go_in;go_wp2;go_ret;exact⟨rfl,rfl⟩
theorem vw (db fb fn cB:Nat)(w:World)(h:w.cell? ⟨db,3,none⟩=some (.slice (some ⟨fb,0,none⟩) fn cB)):
  Calls Tryz.prog 194 #[bQ db] w λe w'=>e= .returned (.bool true)/\w=w':=by
 unfold bQ;go_in;go_wp2;go_ret;exact⟨rfl,rfl⟩
theorem Nv (db rb cap ob og:Nat)(bl:List (Nat×Nat×Nat))(T:aC)(n depth k:Nat)(w:World)(h:wG w db rb cap ob og bl T n depth k)(hgl:T.gs.length<=64):
  Calls Tryz.prog 240 #[bQ db] w λe w'=>e= .returned (.int .i64 ((T.gs.length+(n*bl.length-k):Nat):Int))/\Below w.heap.size w w':=by
 have ahH:=h.lt;have HB:=qd (h.blk);have HR:=qd (h.row);have HT:=qd (h.tab);have ah:=qd (Mod.refl [] w);obtain⟨many1,ag2⟩:=h.many;have yQ:=qd (show∀V,Below w.heap.size w V->∀(i:Nat) (b:Nat×Nat×Nat),bl[i]?=some b->gB V b.1 b.2.1 b.2.2 n (qK n k i)from λV hV i b hb=>(h.pq i b hb).mod (Mod.of_below hV []) (by simp) (by simp) (by simp));have OT:=h.pow.le;clear h;obtain⟨g0,hg0⟩:∃g0,g0=T.gs.length:=⟨_,rfl⟩;rw[<-hg0]at hgl|-;unfold bQ;have bc:=HB.o.c6;have jT:=qd (xq db w bc.2.2.2.1);unfold bQ at jT;have HG:=qd (nN ob og T w HT.o);rw[<-hg0]at HG;unfold bT at HG;clear hg0;go_in;go_wp2_with fail;refine(jT.o).mono ?_;rintro y w1 ⟨rfl,rfl⟩;clear jT;go_wp2_with fail;refine(HG.o).mono ?_;rintro y w1 ⟨rfl,rfl⟩;clear HG;go_wp2;clear bc;have aas:=HR;clear HB HR HT ah;go_loopw [3,5,23] (λv3 _ i wr=>∃j:Nat,j<=bl.length/\i= .int .i64 j/\v3= .int .i64 ((g0+sj n k j:Nat):Int)/\Below w.heap.size w wr) (λ_ _ i _=>bl.length-(intOf i).toNat)
 case atStart=>exact⟨0,by omega,rfl,by simp[sj],Below.refl _ _⟩
 case round=>
  obtain⟨j,hj,rfl,rfl,hm⟩:=hrel;by_cases hlt:j<bl.length
  ·have hlt':(j:Int)<(bl.length:Int):=by omega
   have hj0:(0:Int)<=(j:Int):=by omega
   obtain⟨b,hb⟩:∃b,bl[j]?=some b:=⟨_,zg hlt⟩;have hbl:=yQ.o wr hm j b hb;have hc:=(aas.o.mod (Mod.of_below hm []) (by simp)).at_ j b.1 (by rw[Q3,hb];rfl);have hkl:qK n k j<=n:=Nat.min_le_left _ _
   have hsl:sj n k j<=128:=by rw[Ck];have:n*j<=64*2:=vp OT (by omega);omega
   have HC:=qd (tJ b.1 n (qK n k j) _ wr hkl OT hbl.blk);unfold mV at HC;have Hm:=qd hm;clear hm hb hbl;go_wp2_with fail;refine(HC.o).mono ?_;rintro y w2 ⟨rfl,hw2⟩;have Xa:=qd (show Below w.heap.size w w2 from by rw[<-hw2];exact Hm.o.trans ((Below.refl _ _).drew.mono Hm.o.size));clear hw2;go_wp2;go_roundw
   case rel=>exact⟨j+1,by omega,by go_num,by first|go_num|(simp[sj];omega),Xa.o⟩
   case measure=>simp[intOf];omega
  ·obtain rfl:j=bl.length:=by omega
   have hlt':¬(bl.length:Int)<(bl.length:Int):=by omega
   go_wp2;go_ret;exact⟨iE (by have:=Ck n k bl.length;omega),hm⟩
theorem Gh (db rb cap ob og:Nat)(bC:List Nat)(T:aC)(n:Nat)(dep fr mv tk:Value)(OT:n<=64)(h2:bC.length<=2)(hgl:T.gs.length<=64)(w:World)
  (hblk:aj w db 284 #[pQ ob,dep,.slice (some ⟨rb,0,none⟩) bC.length cap,fr,mv,tk]) (hrow:fO w rb bC) (hb:∀b∈bC,∃(p:Value) (k':Nat),aj w b 313 #[p,nI n,nI k']) (htab:TabAt w ob og T):
  Calls Tryz.prog 138 #[bQ db] w λe w'=>e= .returned (.int .i64 ((T.gs.length+n*bC.length:Nat):Int))/\w=w':=by
 have HB:=qd (hblk);have HR:=qd (hrow);have HT:=qd (htab);have ah:=qd (Mod.refl [] w);have yQ:=qd hb;clear hblk hrow htab hb;obtain⟨g0,hg0⟩:∃g0,g0=T.gs.length:=⟨_,rfl⟩;rw[<-hg0]at hgl|-;unfold bQ;have bc:=HB.o.c6;have HG:=qd (nN ob og T w HT.o);rw[<-hg0]at HG;unfold bT at HG;clear hg0;go_in;go_wp2_with fail;refine(HG.o).mono ?_;rintro y w1 ⟨rfl,rfl⟩;clear HG;go_wp2;clear bc;have aas:=HR;clear HB HR HT ah;go_loopw [3,5,16] (λv3 _ i wr=>∃j:Nat,j<=bC.length/\i= .int .i64 j/\v3= .int .i64 ((g0+n*j:Nat):Int)/\w=wr) (λ_ _ i _=>bC.length-(intOf i).toNat)
 case atStart=>exact⟨0,by omega,rfl,by simp,by first|exact rfl|trivial⟩
 case round=>
  obtain⟨j,hj,rfl,rfl,rfl⟩:=hrel;by_cases hlt:j<bC.length
  ·have hlt':(j:Int)<(bC.length:Int):=by omega
   have hj0:(0:Int)<=(j:Int):=by omega
   obtain⟨b,hb⟩:∃b,bC[j]?=some b:=⟨_,zg hlt⟩;obtain⟨p,k',hbl⟩:=yQ.o b (zE hb);have hc:=aas.o.at_ j b hb
   have hsl:n*j<=128:=by have:n*j<=64*2:=vp OT (by omega);omega
   have hsm:n*(j+1)=n*j+n:=Nat.mul_succ _ _;have HC:=qd (O0 b n k' p w hbl);unfold mV at HC;clear hb hbl;go_wp2_with fail;refine(HC.o).mono ?_;rintro y w2 ⟨rfl,rfl⟩;go_wp2;go_roundw
   case rel=>exact⟨j+1,by omega,by go_num,by first|go_num|(simp;omega),by first|exact rfl|trivial⟩
   case measure=>simp[intOf];omega
  ·obtain rfl:j=bC.length:=by omega
   have hlt':¬(bC.length:Int)<(bC.length:Int):=by omega
   go_wp2;go_ret;exact⟨rfl,rfl⟩
theorem rD (db rb cap ob og fb cB eb vb dw:Nat)(bC:List Nat)(bs:List (Nat×Nat))(T:aC)(Ts:List aC)(n depth next:Nat)(w:World)(h:pY w db rb cap ob og fb cB eb vb dw bC bs T Ts n depth next)(hgl:T.gs.length<=64)(hnx:next<=T.gs.length):
  Calls Tryz.prog 240 #[bQ db] w λe w'=>e= .returned (.int .i64 ((T.gs.length-next:Nat):Int))/\w.drew=w':=by
 have bc3:=h.blk.cell 3;have bc4:=h.blk.cell 4;simp only[gl]at bc3 bc4;have jT:=qd (vw db fb bs.length cB w bc3);have HL:=qd (LV eb ob og vb dw _ depth next T w h.ev h.tab hnx hgl);unfold bQ at jT|-;clear h;go_in;go_wp2_with fail;refine(jT.o).mono ?_;rintro y w1 ⟨rfl,rfl⟩;go_wp2_with fail;refine(HL.o).mono ?_;rintro y w1 ⟨rfl,rfl⟩;go_wp2;go_ret;exact⟨rfl,rfl⟩
