/- Packages plan and credit by their contracts. -/
import Derived.Test.YtkddpchpcepjgaaGreatDoorCoBM
import Derived.Maps.OwnSet
import Derived.Maps.OwnOps
import Derived.Maps.RangeWalk
namespace Go.Proofs.YtkddpchpcepjgaaGreatDoor
set_option maxRecDepth 100000
set_option maxHeartbeats 4000000
open Go.RowKit cu Go.Maps
theorem J1:type_of% @Bool.true_and:=@Bool.true_and
theorem X1:type_of% @List.getElem?_take:=@List.getElem?_take
theorem Kb:type_of% @Oper.upon_enter:=@Oper.upon_enter
theorem vq:type_of% @Bool.false_and:=@Bool.false_and
section
variable {jv k1 k2 k3 qv s : Value}
theorem NM (P:Program)(w:World)(a:Addr)(x:Nat)(m:Mode):(store a (.float .f64 x) m).run P w=stored P w a (.float .f64 x) m:=run_store P w a _ m rfl
attribute [local go_sem] NM
def BA (n m:Int):Bool:=decide (1<=n) && decide (n<=m)
def eX (k m i:Int):Value:= .agg #[.int .i64 k,.int .i64 m,.int .i64 i]
theorem Gn (n m:Int)(w:World):Calls Tryz.prog 34 #[.int .i64 n,.int .i64 m] w λe w'=>e= .returned (.bool (BA n m))/\w=w':=by
 unfold BA;by_cases h1:1<=n
 ·by_cases h2:n<=m
  ·rw[show(decide (1<=n) && decide (n<=m))=true from by simp[h1,h2]];go_in;go_wp2;go_ret;exact⟨rfl,rfl⟩
  ·rw[show(decide (1<=n) && decide (n<=m))=false from by simp[h2]];go_in;go_wp2;go_ret;exact⟨rfl,rfl⟩
 ·rw[show(decide (1<=n) && decide (n<=m))=false from by simp[h1]];go_in;go_wp2;go_ret;exact⟨rfl,rfl⟩
def jB (k m i:Int):Bool:=BA k 64 && (BA m 192 && BA i 8)
theorem xU {E:Nat->Addr}(k m i:Int)(w:World)(hE:vQ E w):Calls Tryz.prog 15 #[eX k m i] w λe w'=>e= .returned (if jB k m i=true then .nilIface else eT E 1)/\Below w.heap.size w w':=by
 have hB:=(Below.refl w.heap.size w).alloc (zb _) (.cells #[.int .i64 k,.int .i64 m,.int .i64 i] 23);have hC:=aj.new w 23 #[.int .i64 k,.int .i64 m,.int .i64 i];obtain⟨W,hW⟩:∃W,W=w.alloc (.cells #[.int .i64 k,.int .i64 m,.int .i64 i] 23):=⟨_,rfl⟩;rw[<-hW]at hB hC;obtain⟨c0,c1,c2⟩:=hC.c3;have HW:=qd hW;have HB:=qd hB;have her:=hE.at_ 1 (by omega) (by omega);have hbk:=hE.below hB (zb _);replace her:=hbk.at_ 1 (by omega) (by omega);unfold bY gE at her;simp only at her;have HP:=qd (Gn);unfold eX;clear hW hB hC hE hbk;unfold jB
 cases h1:BA k 64 with
 |false=>
  simp only[vq,yd,xx];go_in;go_upto_region 1 with fail;rw[<-HW.o];have HQ:=qd (HP.o k 64 W);rw[h1]at HQ;go_wp2_with fail;refine(HQ.o).mono ?_;rintro y w1 ⟨rfl,rfl⟩;clear HQ;go_wp2;go_ret;exact⟨by rw[gH E (by omega:1<=1)];rfl,HB.o⟩
 |true=>
  cases h2:BA m 192 with
  |false=>
   simp only[J1,vq,yd,xx];go_in;go_upto_region 1 with fail;rw[<-HW.o];have HQ:=qd (HP.o k 64 W);rw[h1]at HQ;go_wp2_with fail;refine(HQ.o).mono ?_;rintro y w1 ⟨rfl,rfl⟩;clear HQ;have HQ:=qd (HP.o m 192 W);rw[h2]at HQ;go_wp2_with fail;refine(HQ.o).mono ?_;rintro y w1 ⟨rfl,rfl⟩;clear HQ;go_wp2;go_ret;exact⟨by rw[gH E (by omega:1<=1)];rfl,HB.o⟩
  |true=>
   cases h3:BA i 8 with
   |false=>
    simp only[J1,yd,xx];go_in;go_upto_region 1 with fail;rw[<-HW.o];have HQ:=qd (HP.o k 64 W);rw[h1]at HQ;go_wp2_with fail;refine(HQ.o).mono ?_;rintro y w1 ⟨rfl,rfl⟩;clear HQ;have HQ:=qd (HP.o m 192 W);rw[h2]at HQ;go_wp2_with fail;refine(HQ.o).mono ?_;rintro y w1 ⟨rfl,rfl⟩;clear HQ;have HQ:=qd (HP.o i 8 W);rw[h3]at HQ;go_wp2_with fail;refine(HQ.o).mono ?_;rintro y w1 ⟨rfl,rfl⟩;clear HQ;go_wp2;go_ret;exact⟨by rw[gH E (by omega:1<=1)];rfl,HB.o⟩
   |true=>
    simp only[J1,if_true];go_in;go_upto_region 1 with fail;rw[<-HW.o];have HQ:=qd (HP.o k 64 W);rw[h1]at HQ;go_wp2_with fail;refine(HQ.o).mono ?_;rintro y w1 ⟨rfl,rfl⟩;clear HQ;have HQ:=qd (HP.o m 192 W);rw[h2]at HQ;go_wp2_with fail;refine(HQ.o).mono ?_;rintro y w1 ⟨rfl,rfl⟩;clear HQ;have HQ:=qd (HP.o i 8 W);rw[h3]at HQ;go_wp2_with fail;refine(HQ.o).mono ?_;rintro y w1 ⟨rfl,rfl⟩;clear HQ;go_wp2;go_ret;exact⟨rfl,HB.o⟩
theorem Cr (k m i n:Int)(hk:1<=k/\k<=64)(hn:0<=n/\n<=24)(w:World):Calls Tryz.prog 135 #[eX k m i,.int .i64 n,.int .i64 0] w λe w'=>e= .returned (.int .i64 (n*k))/\Below w.heap.size w w':=by
 have hB:=(Below.refl w.heap.size w).alloc (zb _) (.cells #[.int .i64 k,.int .i64 m,.int .i64 i] 23);have hC:=aj.new w 23 #[.int .i64 k,.int .i64 m,.int .i64 i];obtain⟨W,hW⟩:∃W,W=w.alloc (.cells #[.int .i64 k,.int .i64 m,.int .i64 i] 23):=⟨_,rfl⟩;rw[<-hW]at hB hC;obtain⟨c0,c1,c2⟩:=hC.c3;have HW:=qd hW;have HB:=qd hB;have HP:=qd (Gn k 64 W);rw[show BA k 64=true from by simp[BA,hk]]at HP;have hnk:0<=n*k/\n*k<=24*64:=⟨Int.mul_nonneg hn.1 (by omega),Int.mul_le_mul hn.2 hk.2 (by omega) (by omega)⟩
 have hw1:IntKind.i64.wrap (n*k)=n*k:=by rw[ZZ];omega
 unfold eX;clear hW hB hC hk hn hnk;go_in;go_upto_region 1 with fail;rw[<-HW.o];go_wp2_with fail;refine(HP.o).mono ?_;rintro y w1 ⟨rfl,rfl⟩;go_wp2;go_ret;exact⟨rfl,HB.o⟩
theorem PU (k m i:Int)(hk:1<=k/\k<=64)(w:World):Calls Tryz.prog 172 #[eX k m i] w λe w'=>e= .returned (.int .i64 (8*k))/\Below w.heap.size w w':=by
 have hB:=(Below.refl w.heap.size w).alloc (zb _) (.cells #[.int .i64 k,.int .i64 m,.int .i64 i] 23);have hC:=aj.new w 23 #[.int .i64 k,.int .i64 m,.int .i64 i];obtain⟨W,hW⟩:∃W,W=w.alloc (.cells #[.int .i64 k,.int .i64 m,.int .i64 i] 23):=⟨_,rfl⟩;rw[<-hW]at hB hC;obtain⟨c0,c1,c2⟩:=hC.c3;have HW:=qd hW;have HB:=qd hB;have HP:=qd (Cr k m i 8 hk (by omega) W);unfold eX at HP|-;clear hW hB hC hk;go_in;go_upto_region 1 with fail;rw[<-HW.o];go_wp2_with fail;refine(HP.o).mono ?_;rintro y w1 ⟨rfl,hb⟩;have HB2:=qd (HB.o.trans (hb.mono HB.o.size));clear hb;go_wp2;go_ret;exact⟨iE (by omega),HB2.o⟩
theorem JA (k m i:Int)(hk:1<=k/\k<=64)(w:World):Calls Tryz.prog 174 #[eX k m i] w λe w'=>e= .returned (.int .i64 (1*k))/\Below w.heap.size w w':=by
 have hB:=(Below.refl w.heap.size w).alloc (zb _) (.cells #[.int .i64 k,.int .i64 m,.int .i64 i] 23);have hC:=aj.new w 23 #[.int .i64 k,.int .i64 m,.int .i64 i];obtain⟨W,hW⟩:∃W,W=w.alloc (.cells #[.int .i64 k,.int .i64 m,.int .i64 i] 23):=⟨_,rfl⟩;rw[<-hW]at hB hC;obtain⟨c0,c1,c2⟩:=hC.c3;have HW:=qd hW;have HB:=qd hB;have HP:=qd (Cr k m i 1 hk (by omega) W);unfold eX at HP|-;clear hW hB hC hk;go_in;go_upto_region 1 with fail;rw[<-HW.o];go_wp2_with fail;refine(HP.o).mono ?_;rintro y w1 ⟨rfl,hb⟩;have HB2:=qd (HB.o.trans (hb.mono HB.o.size));clear hb;go_wp2;go_ret;exact⟨iE (by omega),HB2.o⟩
theorem RL (sb:Nat)(b:Int)(w:World)(h:aj w sb 186 #[k1,k2,k3,qv,jv,.int .i64 b,.float .f64 0,s]):
  Calls Tryz.prog 212 #[.pointer (some ⟨sb,5,none⟩)] w λe w'=>e= .returned (.int .i64 b)/\aj w' sb 186 #[k1,k2,k3,qv,jv,.int .i64 0,.float .f64 0,s]/\Mod [sb] w w':=by
 have c5:=h.cell 5;have c6:=h.cell 6;have f5:=h.frozen 5;have f6:=h.frozen 6;simp only[gl]at c5 c6;have hs:=((h.ak 5 (.int .i64 0)).ak 6 (.float .f64 0));simp only[pt]at hs;have HS:=qd (And.intro hs (((Mod.refl [sb] w).sl 5 (.int .i64 0)).sl 6 (.float .f64 0)));clear h hs;go_in;go_wp2;go_ret;exact⟨rfl,HS.o⟩
theorem KO (sb:Nat)(n:Int)(hn:0<=n/\n<=1000)(w:World)(h:aj w sb 186 #[k1,k2,k3,qv,jv,.int .i64 0,.float .f64 0,s]):
  Calls Tryz.prog 100 #[.pointer (some ⟨sb,5,none⟩),.int .i64 n] w λe w'=>e= .returned (.int .i64 n)/\aj w' sb 186 #[k1,k2,k3,qv,jv,.int .i64 n,.float .f64 0,s]/\Mod [sb] w w':=by
 obtain⟨n0,n1⟩:=hn;have c5:=h.cell 5;have c6:=h.cell 6;have f5:=h.frozen 5;have f6:=h.frozen 6;simp only[gl]at c5 c6;have hs:=(h.ak 5 (.int .i64 n));simp only[pt]at hs;have HS:=qd (And.intro hs ((Mod.refl [sb] w).sl 5 (.int .i64 n)));clear h hs
 have hx0:¬n<0:=by omega
 have hx1:¬(1099511627776:Int)<n:=by omega
 have hx2:max n 0=n:=by omega
 have hx3:min n (1099511627776:Int)=n:=by omega
 go_in;go_wp2;go_ret;exact⟨rfl,HS.o⟩
theorem PV (sb b:Nat)(hb:1<=b/\b<=1000)(w:World)(h:aj w sb 186 #[k1,k2,k3,qv,jv,nI b,.float .f64 0,s]):
  Calls Tryz.prog 185 #[.pointer (some ⟨sb,5,none⟩),.int .i64 1] w λe w'=>e= .returned (.bool true)/\aj w' sb 186 #[k1,k2,k3,qv,jv,.int .i64 ((b:Int)-1),.float .f64 0,s]/\Mod [sb] w w':=by
 obtain⟨b0,b1⟩:=hb
 have hx1:¬(1:Int)>(b:Int):=by omega
 have c5:=h.cell 5;have c6:=h.cell 6;have f5:=h.frozen 5;have f6:=h.frozen 6;simp only[gl]at c5 c6;have hs:=(h.ak 5 (.int .i64 ((b:Int)-1)));simp only[pt]at hs;have HS:=qd (And.intro hs ((Mod.refl [sb] w).sl 5 (.int .i64 ((b:Int)-1))));clear h hs;go_in;go_wp2;go_ret;exact⟨rfl,HS.o⟩
theorem JB (sb:Nat)(w:World)(h:aj w sb 186 #[k1,k2,k3,qv,jv,.int .i64 0,.float .f64 0,s]):
  Calls Tryz.prog 185 #[.pointer (some ⟨sb,5,none⟩),.int .i64 1] w λe w'=>e= .returned (.bool false)/\w=w':=by
 have c5:=h.cell 5;have c6:=h.cell 6;have f5:=h.frozen 5;have f6:=h.frozen 6;simp only[gl]at c5 c6;clear h;go_in;go_wp2;go_ret;exact⟨rfl,rfl⟩
theorem KP (sb:Nat)(b:Int)(w:World)(h:aj w sb 186 #[k1,k2,k3,qv,jv,.int .i64 b,.float .f64 0,s]):
  Calls Tryz.prog 214 #[.pointer (some ⟨sb,5,none⟩)] w λe w'=>e= .returned (.int .i64 b)/\w=w':=by
 have c5:=h.cell 5;have c6:=h.cell 6;have f5:=h.frozen 5;have f6:=h.frozen 6;simp only[gl]at c5 c6;clear h;go_in;go_wp2;go_ret;exact⟨rfl,rfl⟩
end
section
variable {w : World} {first qb rb : Nat} {ids ring : List Nat}
theorem gI.put (h:gI w qb rb ring first ids){t:Nat}(ht:t<ids.length)(x:Nat):gI (w.setCell ⟨rb,(first+t) % 40,none⟩ (nI x)) qb rb (ring.set ((first+t) % 40) x) first (ids.set t x):=by
 have hm:=h.many;have hl:=h.len;have hf:=h.El;refine⟨?_, ?_,by rw[qq];exact hl,hf,by rw[qq];exact hm,λi hi=> ?_,h.ne⟩
 ·rw[qq];exact h.blk.far (p:=⟨rb,(first+t) % 40,none⟩) h.ne _
 ·have:=h.row.ak ((first+t) % 40) (nI x)
  rwa [yY]at this
 ·rw[qq]at hi;rw[zv,qr,zv (l:=ids.set t x),qr];by_cases hti:t=i
  ·subst hti;rw[if_pos rfl,if_pos rfl,if_pos (by omega),if_pos ht]
  ·rw[if_neg hti,if_neg (by omega),<-zv,<-zv];exact h.at_ i hi
def jC (ids:List Nat)(i:Nat):Nat->List Nat
 |0=>ids
 |k+1=>(jC ids i k).set (i+k) (ids.getD (i+k+1) 0)
theorem lZ (ids:List Nat)(i:Nat):∀k,(jC ids i k).length=ids.length
 |0=>rfl
 |k+1=>by unfold jC;rw[qq,lZ ids i k]
theorem MB (ids:List Nat)(i:Nat):∀(k:Nat),i+k<ids.length->∀(t:Nat),t<ids.length->(jC ids i k).getD t 0=if i<=t/\t<i+k then ids.getD (t+1) 0 else ids.getD t 0
 |0,_,t,_=>by rw[if_neg (by omega)];rfl
 |k+1,hk,t,ht=>by
  unfold jC;rw[zv,qr,lZ];by_cases h:i+k=t
  ·subst h;rw[if_pos rfl,if_pos (by omega),if_pos (by omega)];rfl
  ·rw[if_neg h,<-zv,MB ids i k (by omega) t ht];by_cases h2:i<=t/\t<i+k
   ·rw[if_pos h2,if_pos (by omega)]
   ·rw[if_neg h2,if_neg (by omega)]
theorem JC {i:Nat}(hi:i<ids.length):(jC ids i (ids.length-(i+1))).take (ids.length-1)=ids.eraseIdx i:=by
 apply Kx;intro t;rw[X1,List.getElem?_eraseIdx];by_cases ht:t<ids.length-1
 ·rw[if_pos ht];have h1:=MB ids i (ids.length-(i+1)) (by omega) t (by omega)
  have h2:t<(jC ids i (ids.length-(i+1))).length:=by rw[lZ];omega
  rw[zv,zg h2]at h1;rw[zg h2];by_cases h3:t<i
  ·rw[if_pos h3];rw[if_neg (by omega),zv,zg (show t<ids.length by omega)]at h1;rw[zg (show t<ids.length by omega)];simpa using h1
  ·rw[if_neg h3];rw[if_pos (by omega),zv,zg (show t+1<ids.length by omega)]at h1;rw[zg (show t+1<ids.length by omega)];simpa using h1
 ·rw[if_neg ht];by_cases h3:t<i
  ·omega
  ·rw[if_neg h3,yo (by omega)]
theorem gI.shrink (h:gI w qb rb ring first ids):gI (w.setCell ⟨qb,2,none⟩ (.int .i64 ((ids.length-1:Nat):Int))) qb rb ring first (ids.take (ids.length-1)):=by
 have hm:=h.many
 have hlt:(ids.take (ids.length-1)).length=ids.length-1:=by rw[qn];omega
 refine⟨?_,h.row.far (p:=⟨qb,2,none⟩) (Ks h.ne) _,h.len,h.El,by omega,λi hi=> ?_,h.ne⟩
 ·rw[hlt];have:=h.blk.ak 2 (.int .i64 ((ids.length-1:Nat):Int));simpa using this
 ·rw[hlt]at hi;rw[h.at_ i (by omega),zv,zv,X1,if_pos hi]
theorem NN {base n c:Nat}{e:TypeId}{A:Option Addr}{xs:List Value}(h:w.ownsRow base e 1 (.slice A n c) n xs)(hn:0<n):∃(g:Nat) (_:Nat),A=some ⟨g,0,none⟩/\base<=g/\g<w.heap.size/\n<=c:=by
 rcases h.2 with⟨_,hz⟩|⟨g,cap,cur,hv,hb,hg,hnc,_⟩
 ·omega
 ·cases hv;exact⟨g,0,rfl,hb,(qi.1 hg).1,hnc⟩
theorem PW (qb rb:Nat)(ring:List Nat)(first:Nat)(ids:List Nat)(id i:Nat)(hin:rH ids id=some i)(w:World)(h:gI w qb rb ring first ids):
  Calls Tryz.prog 216 #[qL qb,nI id] w λe w'=>e= .returned (.bool true)/\(∃tQ,gI w' qb rb tQ first (ids.eraseIdx i))/\Mod [qb,rb] w w':=by
 have aeh:=h.many;have hf:=h.El
 have hil:i<ids.length:=by
  unfold rH at hin;rw[xe]at hin;exact hin.1
 have fE:=qd (Cq qb rb ring first ids w h);obtain⟨n,hn⟩:∃n,n=ids.length:=⟨_,rfl⟩;have HN:=qd hn;rw[<-hn]at fE aeh hil;unfold qL at fE|-
 have hi0:(0:Int)<=(i:Int):=by omega
 have hi1:¬(i:Int)<0:=by omega
 have HQ:=qd (h);have ah:=qd (Mod.refl [qb,rb] w);clear h hn;go_in;have q1:=qJ HQ.o.lt HQ.o.Mw;go_wp2_with fail;refine(fE.o).mono ?_;rintro y w1 ⟨A,c,rfl,hO,hb⟩;have HI:=qd (Mx A n c id ids (by omega) _ w1 hO);rw[hin]at HI;simp only[uZ]at HI;clear hin fE;replace HQ:=qB hb HQ;have z3:=(hb).size;replace ah:=qT ah hb;clear hb;have HO:=qd (hO);clear hO;go_wp2_with fail;refine(HI.o).mono ?_;rintro y w2 ⟨rfl,rfl⟩;clear HI;obtain⟨g,c2,hA⟩:=NN HO.o (by omega);obtain⟨rfl,hgb,hgl,hnc⟩:=hA
 have hw1:IntKind.i64.wrap ((i:Int)+1)=(i:Int)+1:=by rw[ZZ];omega
 have hs0:(0:Int)<=(i:Int)+1:=by omega
 have hs1:(i:Int)+1<=(n:Int):=by omega
 have hs2:((i:Int)+1).toNat=i+1:=by omega
 by_cases hce:c=i+1
 ·obtain⟨mm,hmm⟩:∃mm,mm=n-(i+1):=⟨_,rfl⟩;have HCe:=qd hce;subst hce;go_wp2;go_loopw [7,8,21] (λ_ _ vi wr=>∃k:Nat,k<=n-(i+1)/\vi= .int .i64 k/\(∃rg,gI wr qb rb rg first (jC ids i k))/\wr.ownsRow w.heap.size 3 1 (.slice (some ⟨g,0,none⟩) n (i+1)) n (dK ids)/\Mod [qb,rb] w wr) (λ_ _ vi _=>(n-(i+1))-(intOf vi).toNat)
  case atStart=>exact⟨0,by omega,rfl,⟨ring,HQ.o⟩,HO.o,ah.o⟩
  case round=>
   clear HQ HO ah;obtain⟨k,hk,rfl,⟨rg,hQ⟩,hO,hm⟩:=hrel;have hnn:=HN.o;by_cases hlt:k<n-(i+1)
   ·exfalso;omega
   ·obtain rfl:k=n-(i+1):=by omega
    have hlt':¬((n-(i+1):Nat):Int)<((n-(i+1):Nat):Int):=by omega
    have hsl:(jC ids i (n-(i+1))).length=ids.length:=lZ ids i _;have hs:=hQ.shrink;rw[hsl,<-hnn,show(jC ids i (n-(i+1))).take (n-1)=ids.eraseIdx i from by rw[hnn];exact JC (by omega)]at hs;have c2:=hQ.blk.cell 2;have f2:=hQ.blk.frozen 2;simp only[gl]at c2;rw[hsl,<-hnn]at c2
    have hw4:IntKind.i64.wrap ((n:Int)-1)=((n-1:Nat):Int):=by rw[ZZ];omega
    have hw5:wrap64 ((n:Int)-1)=((n-1:Nat):Int):=by unfold wrap64;omega
    have HFin:=qd (And.intro (show∃tQ,gI _ qb rb tQ first (ids.eraseIdx i)from⟨rg,hs⟩) (hm.sl 2 (.int .i64 ((n-1:Nat):Int))));clear hQ hO hm hs hsl hnn;go_wp2;go_ret;exact⟨rfl,HFin.o⟩
 ·obtain⟨mm,hmm⟩:∃mm,mm=n-(i+1):=⟨_,rfl⟩;go_wp2;go_loopw [7,8,21] (λ_ _ vi wr=>∃k:Nat,k<=n-(i+1)/\vi= .int .i64 k/\(∃rg,gI wr qb rb rg first (jC ids i k))/\wr.ownsRow w.heap.size 3 1 (.slice (some ⟨g,0,none⟩) n c) n (dK ids)/\Mod [qb,rb] w wr) (λ_ _ vi _=>(n-(i+1))-(intOf vi).toNat)
  case atStart=>exact⟨0,by omega,rfl,⟨ring,HQ.o⟩,HO.o,ah.o⟩
  case round=>
   clear HQ HO ah;obtain⟨k,hk,rfl,⟨rg,hQ⟩,hO,hm⟩:=hrel;have hnn:=HN.o;by_cases hlt:k<n-(i+1)
   ·have hlt':(k:Int)<((n-(i+1):Nat):Int):=by omega
    have hk0:(0:Int)<=(k:Int):=by omega
    obtain⟨v,hv⟩:∃v,ids[i+1+k]?=some v:=⟨_,zg (by omega)⟩;obtain⟨g',hg',_,_,hc,_⟩:=nS hO hv;cases hg'
    have hvd:ids.getD (i+k+1) 0=v:=by rw[zv,show i+k+1=i+1+k by omega,hv];rfl
    have hsl:(jC ids i k).length=ids.length:=lZ ids i k;have jH:=qd (λV hV=>Hg qb rb rg first (jC ids i k) (i+k) (by omega) V hV)
    try simp only[nI]at jH
    rw[show((i+k:Nat):Int)=(i:Int)+(k:Int) by omega]at jH;have HPu:=qd (λV (hV:gI V qb rb rg first (jC ids i k))=>hV.put (t:=i+k) (by omega) v);obtain⟨q,hq⟩:∃q,q=(first+(i+k)) % 40:=⟨_,rfl⟩;rw[<-hq]at jH HPu
    have KN:q<40:=by omega
    have hq0:(0:Int)<=(q:Int):=by omega
    have hq1:(q:Int)<40:=by omega
    have hw3:IntKind.i64.wrap ((i:Int)+(k:Int))=(i:Int)+(k:Int):=by rw[ZZ];omega
    have HVd:=qd hvd;unfold qL at jH;clear hv hvd hsl hq hnn;have HQ:=qd (hQ);have HO:=qd (hO);have ah:=qd (hm);clear hQ hO hm;have z1:=qJ ah.o.size (qJ HQ.o.lt HQ.o.Mw);go_upto_region 8 with fail;have ce:=HQ.o.entry KN;have cf:=HQ.o.row.frozen q;have c0:=HQ.o.blk.cell 0;simp only[zr,zc]at c0;obtain⟨u,hu⟩:∃u,u=rg.getD q 0:=⟨_,rfl⟩;rw[<-hu]at ce;clear hu;refine rT (λ(w':World)=>w'.cell? ⟨qb,0,none⟩=some (.slice (some ⟨rb,0,none⟩) 40 40)) [11] ?_;have hHeld:=c0;refine vW 0 rfl ?_;refine vW 1 rfl ?_;refine vW 2 rfl ?_;refine vT 3 rfl ?_;refine vW 4 rfl ?_;refine vW 5 rfl ?_;refine vW 6 rfl ?_;refine vW 7 rfl ?_;refine vW 9 rfl ?_;refine nT 8 rfl λK hK=> ?_;go_simp;refine(jH.o _ (HQ.o.mod (Mod.drewN [] wr 1) (by simp) (by simp))).mono ?_;rintro y w3 ⟨rfl,aei⟩;have hm:Mod [] wr w3:=aei▸Mod.drewN [] wr 2;clear aei hc ce cf c0;replace HQ:=qM hm HQ;replace HO:=qM hm HO;have z4:=(hm).size;replace ah:=qU ah hm;clear hm;have ce:=HQ.o.entry KN;have cf:=HQ.o.row.frozen q;have c0:=HQ.o.blk.cell 0;simp only[zr,zc]at c0;obtain⟨u,hu⟩:∃u,u=rg.getD q 0:=⟨_,rfl⟩;rw[<-hu]at ce;clear hu;go_wp2_with fail;have hHeld:=c0;refine kO hK ?_;clear hK K;refine vW 10 rfl ?_;refine nT 11 rfl λK hK=> ?_;go_simp;refine kO hK ?_;clear hK K;refine aV (by kernel_rfl) ?_ _;have lJ:=qd (show jC ids i (k+1)=(jC ids i k).set (i+k) v from by rw[<-HVd.o];rfl)
    refine aY (F:=λV=>gI V qb rb (rg.set q v) first (jC ids i (k+1))/\Mod [rb] w3 V) ⟨by rw[lJ.o];exact HPu.o _ HQ.o,(Mod.refl [rb] w3).sl q (nI v)⟩ ?_;rintro w4 ⟨hQ4,hm⟩;clear HQ ce cf c0;replace HO:=qM hm HO;have z5:=(hm).size;replace ah:=qU ah hm;have HQ4:=qd hQ4;clear hQ4 hm;go_wp2;go_roundw
    case rel=>exact⟨k+1,by omega,by go_num,⟨_,HQ4.o⟩,HO.o,ah.o⟩
    case measure=>simp[intOf];omega
   ·obtain rfl:k=n-(i+1):=by omega
    have hlt':¬((n-(i+1):Nat):Int)<((n-(i+1):Nat):Int):=by omega
    have hsl:(jC ids i (n-(i+1))).length=ids.length:=lZ ids i _;have hs:=hQ.shrink;rw[hsl,<-hnn,show(jC ids i (n-(i+1))).take (n-1)=ids.eraseIdx i from by rw[hnn];exact JC (by omega)]at hs;have c2:=hQ.blk.cell 2;have f2:=hQ.blk.frozen 2;simp only[gl]at c2;rw[hsl,<-hnn]at c2
    have hw4:IntKind.i64.wrap ((n:Int)-1)=((n-1:Nat):Int):=by rw[ZZ];omega
    have hw5:wrap64 ((n:Int)-1)=((n-1:Nat):Int):=by unfold wrap64;omega
    have HFin:=qd (And.intro (show∃tQ,gI _ qb rb tQ first (ids.eraseIdx i)from⟨rg,hs⟩) (hm.sl 2 (.int .i64 ((n-1:Nat):Int))));clear hQ hO hm hs hsl hnn;go_wp2;go_ret;exact⟨rfl,HFin.o⟩
end
section
variable {ops : Array Oper} {rest : List Oper} {o : Oper} {a : Act} {Q : Exit -> Act -> World -> Prop}
def Oh (v:Value):Option (DataW Value×List MemPlace):=some (.held v,[])
def ji (w:World)(b n:Nat)(f:Int->Option Value):Prop:=
 ∃D:DataW Value,w.ownsMap Tryz.prog 3 Oh b n D/\size D=n/\∀x,(Lit.int .i64 x).wf=true->has D (.int .i64 x)=(f x).isSome/\∀v,f x=some v->∀z,D.atKey (.int .i64 x) z= .held v
theorem jK:Tryz.prog.underlying 3 =some (.int .i64):=by kernel_rfl
theorem xV:Tryz.prog.underlying 184 =some (.map 3 265):=by kernel_rfl
theorem PX (w:World):(zeroValue 265).run Tryz.prog w= .ok .nilIface w:=by kernel_rfl
theorem JD {w w':World}{b:Nat}(h:w.mapTurned w' b):Mod [b] w w':=by
 have hg:=h.grown;exact⟨hg.os,hg.tape,hg.output,hg.size,λk hk hn=>hg.block k hk (λe=>hn (by injection e with e;simp[e]))⟩
section
variable {b n : Nat} {f : Int -> Option Value} {w w' : World}
theorem ji.made (w:World):ji (w.alloc (.map #[] 0)) w.heap.size 0 (λ_=>none):=
 ⟨_,World.ownsMap_made w _ _ _,rfl,λx _=>⟨rfl,λv hv=>by cases hv⟩⟩
theorem ji.lt (h:ji w b n f):b<w.heap.size:=by
 obtain⟨D,h1,_⟩:=h;exact h1.lt
theorem ji.mod {S:List Nat}(h:ji w b n f)(hm:Mod S w w')(hb:b∉S):ji w' b n f:=by
 have hlt:=h.lt;obtain⟨D,⟨es,clock,hh,r⟩,h2⟩:=h;exact⟨D,⟨es,clock,(hm.block b hlt hb).trans hh,r⟩,h2⟩
instance {w w':World}{b n:Nat}{f:Int->Option Value}:Md (ji w b n f) w w' (ji w' b n f) (λS=>b∉S):=⟨λh hm hs=>h.mod hm hs⟩
theorem ji.congr {g:Int->Option Value}(h:ji w b n f)(he:∀x,f x=g x):ji w b n g:=by
 obtain rfl:f=g:=funext he;exact h
theorem Hl {v u:Value}{ps:List MemPlace}(h:Oh v=some (.held u,ps)):v=u:=by
 unfold Oh at h
 injection h with h
 injection h with h1 h2
 injection h1
theorem Dm (hg:o.guard=none)(m x:Operand)(hop:o.op=Op.lookup 184 m x true)(hm:a.eval m= .map (some b))(hown:ji w b n f)(xv:Int)(hx:a.eval x= .int .i64 xv)(hw:(Lit.int .i64 xv).wf=true)(hK:wpList Tryz.prog ops Q rest (a.put o.dst (.tuple #[(f xv).getD .nilIface,.bool (f xv).isSome])) w):
  wpList Tryz.prog ops Q (o::rest) a w:=by
 obtain⟨D,h1,h0,h2⟩:=hown;obtain⟨h3,h4⟩:=h2 xv hw;refine wpList_lookup_own_ok w hg m x _ hop _ _ (int_keyed jK) xV Oh (PX w) (.held .nilIface) [] rfl b n D hm h1 _ _ hx (keyOf_int_mk jK hw) λv ps hv=> ?_;rw[h3]
 cases hf:f xv with
 |some u=>
  rw[h4 u hf]at hv;obtain rfl:=Hl hv;rw[hf]at hK;exact hK
 |none=>
  rw[hf]at h3;rw[atKey_of_not_has h3]at hv;obtain rfl:=Hl hv;rw[hf]at hK;exact hK
theorem xW (hg:o.guard=none)(m x:Operand)(hop:o.op=Op.lookup 184 m x false)(hm:a.eval m= .map (some b))(hown:ji w b n f)(xv:Int)(hx:a.eval x= .int .i64 xv)(hw:(Lit.int .i64 xv).wf=true)(v:Value)(hf:f xv=some v)(hK:wpList Tryz.prog ops Q rest (a.put o.dst v) w):
  wpList Tryz.prog ops Q (o::rest) a w:=by
 obtain⟨D,h1,h0,h2⟩:=hown;obtain⟨h3,h4⟩:=h2 xv hw;refine wpList_plain hg λK' hK'=> ?_;obtain⟨u,ps,hrun,hv⟩:=h1.lookup (int_keyed jK) xV (PX w) (zd:= .held .nilIface) (zp:=[]) rfl (keyOf_int_mk jK hw);rw[h4 v hf]at hv;obtain rfl:=Hl hv;unfold Oper.wp;simp[execOp,hop,hm,hx,hrun,Result.andThen];exact hK' _ _ hK
theorem Hq (hg:o.guard=none)(m x v:Operand)(hop:o.op=Op.mapUpdate 184 m x v)(hm:a.eval m= .map (some b))(hown:ji w b n f)(hn:n<maxLen)(xv:Int)(vv:Value)(hx:a.eval x= .int .i64 xv)(hv:a.eval v=vv)(hw:(Lit.int .i64 xv).wf=true)(hf:f xv=none)(hK:∀w',ji w' b (n+1) (λy=>if y=xv then some vv else f y)->Mod [b] w w'->wpList Tryz.prog ops Q rest (a.put o.dst undef) w'):
  wpList Tryz.prog ops Q (o::rest) a w:=by
 obtain⟨D,h1,h0,h2⟩:=hown;have hD:IsMap D:=h1.isMap;have hT:Tidy D:=h1.tidy (int_keyed jK);refine wpList_mapUpdate_in w hg m x v _ hop _ _ (int_keyed jK) xV _ b n D hm h1 hn _ _ _ hx hv (keyOf_int_mk jK hw) (.held vv) [] rfl λw' h3 h4=>hK w' ⟨_,h3, ?_,λy hy=> ?_⟩ (JD h4)
 ·rw[size_put hT,if_neg (by rw[(h2 xv hw).1,hf];simp),h0]
 have hkl:WideAt.IsKeyLit (.int .i64 xv):=(int_keyed jK).key (keyOf_int_mk jK hw);by_cases hyx:y=xv
 ·subst hyx;refine⟨?_,λu hu z=> ?_⟩
  ·rw[has_put_same hD hkl];simp
  ·rw[atKey_put_same hD hkl];simp at hu;rw[hu]
 ·have hne:(Lit.int .i64 y)≠ .int .i64 xv:=λe=>hyx (by injection e);obtain⟨h5,h6⟩:=h2 y hy;simp only[hyx,xx];refine⟨by rw[has_put_other hne];exact h5,λu hu z=> ?_⟩;rw[atKey_put_other hne];exact h6 u hu z
theorem FN (hg:o.guard=none)(m x:Operand)(hop:o.op=Op.call {callee:=Callee.builtin Builtin.delete,args:= #[m,x],argTypes:= #[184,3]})(hm:a.eval m= .map (some b))(hown:ji w b n f)(xv:Int)(hx:a.eval x= .int .i64 xv)(hw:(Lit.int .i64 xv).wf=true)(hK:∀w',ji w' b (n-if(f xv).isSome then 1 else 0) (λy=>if y=xv then none else f y)->Mod [b] w w'->wpList Tryz.prog ops Q rest (a.put o.dst (.tuple #[])) w'):
  wpList Tryz.prog ops Q (o::rest) a w:=by
 obtain⟨D,h1,h0,h2⟩:=hown;have hT:Tidy D:=h1.tidy (int_keyed jK);refine wpList_delete_own w hg m x _ _ hop _ (int_keyed jK) xV _ b n D hm h1 _ _ hx (keyOf_int_mk jK hw) λw' h3 h4=>hK w' ⟨D.del (.int .i64 xv), ?_, ?_,λy hy=> ?_⟩ (JD h4)
 ·have hs:=size_del (k:= .int .i64 xv) hT;rw[(h2 xv hw).1]at hs;obtain⟨es,clock,hb,F,_,hD⟩:=h3;refine⟨es,clock,hb,F, ?_,hD⟩
  have e1:size (D.del (.int .i64 xv))=es.size:=by rw[hD];simp[size,length_sorted]
  omega
 ·have hs:=size_del (k:= .int .i64 xv) hT;rw[(h2 xv hw).1]at hs;omega
 by_cases hyx:y=xv
 ·subst hyx;refine⟨?_,λu hu z=> ?_⟩
  ·rw[has_del_same];simp
  ·simp at hu
 ·have hne:(Lit.int .i64 y)≠ .int .i64 xv:=λe=>hyx (by injection e);obtain⟨h5,h6⟩:=h2 y hy;simp only[hyx,xx];refine⟨by rw[has_del_other hne];exact h5,λu hu z=> ?_⟩;rw[atKey_del_other hne];exact h6 u hu z
end
end
section
variable {t : TypeId}
def Au (t:TypeId):Prop:=t=126 \/t=136
def jW (t:TypeId):FuncId:=if t=126 then 275 else 217
def xX (t:TypeId):FuncId:=if t=126 then 276 else 294
theorem sH (h:Au t)(a:Addr)(n:Nat)(w:World):(method (n+1) t (.pointer (some a)) "Left").run Tryz.prog w= .ok (jW t,.pointer (some a)) w:=by
 rcases h with rfl|rfl<;>kernel_rfl
theorem XE (h:Au t)(a:Addr)(n:Nat)(w:World):(method (n+1) t (.pointer (some a)) "Step").run Tryz.prog w= .ok (xX t,.pointer (some a)) w:=by
 rcases h with rfl|rfl<;>kernel_rfl
theorem sI (h:Au t)(args:Array Value)(w:World):(callFunc (jW t) args).run Tryz.prog w= .ok (.enter (jW t) args) w:=by
 rcases h with rfl|rfl<;>kernel_rfl
theorem XF (h:Au t)(args:Array Value)(w:World):(callFunc (xX t) args).run Tryz.prog w= .ok (.enter (xX t) args) w:=by
 rcases h with rfl|rfl<;>kernel_rfl
def fD (b:Nat):Value:=pQ b
def nW (w:World)(sb qb jb:Nat)(k b s:Int):Prop:=aj w sb 186 #[.int .i64 k,.int .i64 1,.int .i64 1,pQ qb,.map (some jb),.int .i64 b,.float .f64 0,.int .i64 s]
section
variable {w w' : World} {sb qb jb : Nat} {k b s : Int}
theorem nW.lt (h:nW w sb qb jb k b s):sb<w.heap.size:=aj.lt h
theorem nW.mod {S:List Nat}(h:nW w sb qb jb k b s)(hm:Mod S w w')(hs:sb∉S):nW w' sb qb jb k b s:=aj.mod h hm hs
instance {w w':World}{sb qb jb:Nat}{k b s:Int}:Md (nW w sb qb jb k b s) w w' (nW w' sb qb jb k b s) (λS=>sb∉S):=⟨λh hm hs=>nW.mod h hm hs⟩
end
theorem U9 (sb qb jb:Nat)(k b s n:Int)(hn:0<=n/\n<=1000)(w:World)(h:nW w sb qb jb k b s):
  Calls Tryz.prog 171 #[fD sb,.int .i64 n] w λe w'=>e= .returned undef/\nW w' sb qb jb k n s/\Mod [sb] w w':=by
 unfold nW at h|-;have HB:=qd h;have ah:=qd (Mod.refl [sb] w);have HS:=qd (h);unfold fD;have c5:=h.cell 5;clear h HB c5;go_in;go_wp2_with fail;refine(RL sb b w HS.o).mono ?_;rintro x w1 ⟨rfl,hs,hm⟩;replace HS:=qd hs;have hz:=hm.size;replace ah:=qd hm;clear hs hm;go_wp2_with fail;refine(KO sb n hn w1 HS.o).mono ?_;rintro x w2 ⟨rfl,hs,hm⟩;replace ah:=qd (ah.o.then hm);replace HS:=qd hs;clear hs hm;go_wp2;go_end0;exact⟨rfl,HS.o,ah.o⟩
theorem JE (sb:Nat)(t:TypeId)(a:Addr)(m:Value)(w:World)(hj:Au t)(hL:Calls Tryz.prog (jW t) #[.pointer (some a)] w λe w'=>e= .returned (.int .i64 0)/\Below w.heap.size w w'):
  Calls Tryz.prog 173 #[fD sb,m,.iface t (.pointer (some a))] w λe w'=>e= .returned (.bool false)/\Below w.heap.size w w':=by
 have HJ:=qd hj;have HL:=qd hL;obtain⟨F,hF⟩:∃F,F=jW t:=⟨_,rfl⟩;rw[<-hF]at HL;have HF:=qd hF.symm;unfold fD;clear hj hL hF;go_in;go_upto_region 1 with fail;go_wp2_with fail;rw[sH HJ.o,x8,sI HJ.o];rw[show jW t=F from HF.o];rw[Kb];refine HL.o.mono ?_;rintro x w1 ⟨rfl,hb⟩;have HB:=qd hb;clear hb;go_wp2;go_ret;exact⟨rfl,HB.o⟩
theorem Hr (sb qb jb:Nat)(k s:Int)(l:Nat)(hl:1<=l)(t:TypeId)(a:Addr)(m:Value)(w:World)(hj:Au t)(hL:Calls Tryz.prog (jW t) #[.pointer (some a)] w λe w'=>e= .returned (nI l)/\Below w.heap.size w w')(h:nW w sb qb jb k 0 s):
  Calls Tryz.prog 173 #[fD sb,m,.iface t (.pointer (some a))] w λe w'=>e= .returned (.bool false)/\Below w.heap.size w w':=by
 have hl1:¬(l:Int)<1:=by omega
 have HS:=qd h;have hlt:=h.lt;clear h hl;have HJ:=qd hj;have HL:=qd hL;obtain⟨F,hF⟩:∃F,F=jW t:=⟨_,rfl⟩;rw[<-hF]at HL;have HF:=qd hF.symm;unfold fD;clear hj hL hF;go_in;go_upto_region 1 with fail;go_wp2_with fail;rw[sH HJ.o,x8,sI HJ.o];rw[show jW t=F from HF.o];rw[Kb];refine HL.o.mono ?_;rintro x w1 ⟨rfl,hb⟩;replace HS:=qB hb HS;have HB:=qd hb;clear hb;have HC:=qd (JB sb w1 HS.o);go_wp2_with fail;refine HC.o.mono ?_;rintro x w2 ⟨rfl,rfl⟩;go_wp2;go_ret;exact⟨rfl,HB.o⟩
theorem Va (sb qb jb:Nat)(k s:Int)(b l:Nat)(hl:1<=l)(hb:b<=999)(t:TypeId)(a:Addr)(m:Value)(Post:World->World->Prop)(w:World)(hj:Au t)(hL:Calls Tryz.prog (jW t) #[.pointer (some a)] w λe w'=>e= .returned (nI l)/\Below w.heap.size w w')(h:nW w sb qb jb k ((b+1:Nat):Int) s)(hS:∀V,Mod [sb] w V->nW V sb qb jb k (b:Int) (wrap64 (s+1))->Calls Tryz.prog (xX t) #[.pointer (some a),m] V λe V'=>e= .returned (.bool true)/\Post V V'):
  Calls Tryz.prog 173 #[fD sb,m,.iface t (.pointer (some a))] w λe w'=>e= .returned (.bool true)/\∃V,Mod [sb] w V/\nW V sb qb jb k (b:Int) (wrap64 (s+1))/\Post V w':=by
 have hl1:¬(l:Int)<1:=by omega
 have HS:=qd h;have iV:=qd hS;have hlt:=h.lt;obtain⟨Fs,zR⟩:∃F,F=xX t:=⟨_,rfl⟩;rw[<-zR]at iV;have HFs:=qd zR.symm;clear h hl hS zR;have HJ:=qd hj;have HL:=qd hL;obtain⟨F,hF⟩:∃F,F=jW t:=⟨_,rfl⟩;rw[<-hF]at HL;have HF:=qd hF.symm;unfold fD;clear hj hL hF;go_in;go_upto_region 1 with fail;go_wp2_with fail;rw[sH HJ.o,x8,sI HJ.o];rw[show jW t=F from HF.o];rw[Kb];refine HL.o.mono ?_;rintro x w1 ⟨rfl,hb⟩;replace HS:=qB hb HS;have ah:=qd (Mod.of_below hb [sb]);clear hb;have HC:=qd (PV sb (b+1) (by omega) w1 HS.o);go_wp2_with fail;refine HC.o.mono ?_;rintro x w2 ⟨rfl,hs,hm⟩;replace ah:=qd (ah.o.then hm);clear HC hm
 have hs2:nW w2 sb qb jb k (b:Int) s:=by
  unfold nW
  try simp only[nI]at hs
  rw[show(((b+1:Nat):Int)-1)=(b:Int) by omega]at hs;exact hs
 replace HS:=qd hs2;clear hs hs2;have c7:=aj.cell HS.o 7;have f7:=aj.frozen HS.o 7;simp only[gl]at c7;have hsp:=aj.ak HS.o 7 (.int .i64 (wrap64 (s+1)));simp only[pt]at hsp;replace HS:=qd (show nW (w2.setCell ⟨sb,7,none⟩ (.int .i64 (wrap64 (s+1)))) sb qb jb k (b:Int) (wrap64 (s+1))from hsp);replace ah:=qd (ah.o.sl 7 (.int .i64 (wrap64 (s+1))));clear hsp;replace iV:=qd (iV.o _ ah.o HS.o);go_wp2_with fail;rw[XE HJ.o,x8,XF HJ.o];rw[show xX t=Fs from HFs.o];rw[Kb];refine iV.o.mono ?_;rintro x w3 ⟨rfl,hp⟩;have HP:=qd hp;clear hp c7 f7;go_wp2;go_ret;exact⟨rfl,_,ah.o,HS.o,HP.o⟩
end
