/- A table's Find, Put, Delete by their contracts. -/
import Derived.Test.YtnfjjbpmhcbelaaGreatDoorTabT
import Derived.Test.YtnfjjbpmhcbelaaGreatDoorSqM
import Derived.Test.YtnfjjbpmhcbelaaGreatDoorGaugeA
import Derived.Test.YtnfjjbpmhcbelaaGreatDoorCoG
import Derived.Deep.LoopGhost
import Derived.Laws.StructEq
import Derived.Test.YtnfjjbpmhcbelaaGreatDoorAppAny
import Derived.BigQuiet
import Derived.Test.YtnfjjbpmhcbelaaGreatDoorFqA
namespace Go.Proofs.YtnfjjbpmhcbelaaGreatDoor
set_option maxRecDepth 100000
set_option maxHeartbeats 4000000
open Go.RowKit dI Go.Shelf ru kM
theorem bV {p F:World→Prop}{w:World}(h:F w)(h2:∀v,F v→p v):p w:=h2 w h
theorem fP.below {w w':World}(h:fP w)(hb:Below w.heap.size w w'):fP w':=fun i hi=>aI hb (h i hi)
theorem fP.mod {S:List Nat}{w w':World}(h:fP w)(hm:Mod S w w')(hs:17 ∉S):fP w':=fun i hi=>
 (hm.cell_ (p:=⟨17,pO i,none⟩) (World.block_lt_of_cell? w _ (h i hi)) hs).trans (h i hi)
def iq (gs:Tab)(key hash:Nat):Option av:=(aJ gs key hash).1.map fun x=>(aF gs x.1 x.2).ent
def eX (o:Option av):Value:= .tuple #[aP (o.getD ⟨0,0,0⟩),.bool o.isSome]
theorem gK (tb gb key hash:Nat)(T:aC)(ap fp:Option Addr)(fs:Int)(hap:iB gb (aJ T.gs key hash).1 ap)(w:World)(h:TabAt w tb gb T):
  Calls Tryz.prog 106 #[bK tb key hash ap (bO (aJ T.gs key hash).1) fp fs] w fun x w'=>x= .returned (eX (iq T.gs key hash))∧Below w.heap.size w w':=by
 unfold iq eX
 cases hs:(aJ T.gs key hash).1 with
 |none=>exact Ie tb key hash ap fp fs w
 |some x=>
  obtain⟨i,s⟩:=x;obtain⟨e,h1,_,h3,h4⟩:=vG hs;obtain rfl:=hap i s hs;have:=Ig tb key hash gb fp fs T i s h3 (by have:=h.wide.at_ h3;omega) e h1 w h;simpa[bO,h1,Slot.ent]using this
theorem SF (tb gb:Nat)(T:aC)(mb:Nat)(mt:TypeId)(gQ eP:List Value)(mo:Nat)(a0 l0:bq)(m:Int)(c:bq)(key hash:Nat)(w:World)(h:TabAt w tb gb T)(hP:Pw T.gs.length)(h64:hash<18446744073709551616)(hM:Met w mb mt gQ eP mo a0 l0 m)(hmt:mb≠tb)(gH:mb≠gb)(hT:fP w)(hz:17 ≠mb):
  Calls Tryz.prog 125 #[bU tb,aG (some ⟨mb,mo,none⟩) c,nU key,nU hash] w fun x w'=>x= .returned (eX (iq T.gs key hash))∧Met w' mb mt gQ eP mo (eO a0 c (aJ T.gs key hash).2.2) (eO l0 c (aJ T.gs key hash).2.2) m∧Mod [mb] w w':=by
 obtain⟨W,hW,hB,hL,hD⟩:=kN w 163 #[.pointer (some ⟨mb,mo,none⟩),.int .i64 c.p,.int .i64 c.v,.int .i64 c.u] 166 #[.int .u64 0,.int .u64 0,.int .u64 0];obtain⟨Ko,Kq,Kr,Kt⟩:=hL.c4;have hml:=hM.lt;have l7:=h.below hB;have aX:=qd (sO tb gb key hash T mb mt gQ eP mo a0 l0 m c W l7 hP h64 (hM.below hB) hmt gH (hT.below hB) hz);have HW:=qd hW;have HB:=qd hB;have bQ:=qd (fun ap fp fs hap V hV=>gK tb gb key hash T ap fp fs hap V hV);unfold bU aG bK at aX;unfold bK eX aP at bQ;unfold bU aG eX aP;clear hW hB h hM;obtain⟨fe,hfe⟩:∃fe,fe=(iq T.gs key hash).getD ⟨0,0,0⟩:=⟨_,rfl⟩;obtain⟨fb,pX⟩:∃fb,fb=(iq T.gs key hash).isSome:=⟨_,rfl⟩;rw[←hfe,←pX]at bQ⊢;clear hfe pX;go_in;go_upto_region 1 with fail;rw[←HW.out];go_wp2_with fail;refine(aX.out).mono ?_;rintro x w1 ⟨ap,fp,rfl,hap,hfp,hM1,hm1⟩;have UR:=qd hM1;have hD1:=hD.mod hm1 (by simp;omega);have oN:=qd (bQ.out ap fp (bO (aJ T.gs key hash).2.1) hap w1 (l7.mod hm1 (by simp;omega) (by simp;omega)));clear hM1 hap hfp hD l7;go_wp2_with fail;refine(oN.out).mono ?_;rintro x w2 ⟨rfl,hb2⟩;have hD2:=hD1.below hb2 hD1.lt;obtain⟨d0,d1,d2⟩:=hD2.c3;obtain⟨f0,f1,f2⟩:=hD2.f3;have hM2:=UR.out.below hb2;have hm2:=((Mod.of_below HB.out [mb]).then hm1).then (Mod.of_below hb2 [mb]);have Vg:=hD1.lt;have gZ:=((hm2.ak (b:=w.heap.size+1) (.inr (by omega)) 0 (nU fe.key)).ak (b:=w.heap.size+1) (.inr (by omega)) 1 (nU fe.val)).ak (b:=w.heap.size+1) (.inr (by omega)) 2 (nU fe.hash)
 have hne:mb≠w.heap.size+1:=by omega
 have HP:=qd (And.intro (show Met _ mb mt gQ eP mo _ _ m from⟨hM2.len,((hM2.blk.far (p:=⟨w.heap.size+1,0,none⟩) hne (nU fe.key)).far (p:=⟨w.heap.size+1,1,none⟩) hne (nU fe.val)).far (p:=⟨w.heap.size+1,2,none⟩) hne (nU fe.hash)⟩) gZ);clear hM2 hm2 gZ hb2 hm1 hD1 hD2;go_wp2;refine bodyPost_ret (v:= .tuple #[.agg #[nU fe.key,nU fe.val,nU fe.hash],.bool fb]) ?_ rfl ⟨rfl,HP.out.1,HP.out.2⟩;simp[results,Tryz.results125,go_sem,d0,d1,d2]
theorem LG (tb gb:Nat)(T:aC)(mb:Nat)(mt:TypeId)(gQ eP:List Value)(mo:Nat)(a0 l0:bq)(m:Int)(c:bq)(e:av)(w:World)(h:TabAt w tb gb T)(hP:Pw T.gs.length)(h64:e.hash<18446744073709551616)(hM:Met w mb mt gQ eP mo a0 l0 m)(hmt:mb≠tb)(gH:mb≠gb)(hT:fP w)(hz:17 ≠mb)(hsk:(aJ T.gs e.key e.hash).1=none)(i s:Nat)(hfr:(aJ T.gs e.key e.hash).2.1=some (i,s))(hS:Small T)(hroom:T.live+T.bW+1≤7*(T.gs.length:Int)):
  Calls Tryz.prog 308 #[bU tb,aG (some ⟨mb,mo,none⟩) c,aP e] w fun x w'=>x= .returned (.tuple #[.bool true,.nilIface])∧TabAt w' tb gb (jC T i s e)∧Met w' mb mt gQ eP mo (eO a0 c (aJ T.gs e.key e.hash).2.2) (eO l0 c (aJ T.gs e.key e.hash).2.2) m∧Mod [mb,tb,gb] w w':=by
 obtain⟨W,hW,hB,hL,hE⟩:=kN w 163 #[.pointer (some ⟨mb,mo,none⟩),.int .i64 c.p,.int .i64 c.v,.int .i64 c.u] 166 #[nU e.key,nU e.val,nU e.hash];obtain⟨Ko,Kq,Kr,Kt⟩:=hL.c4;obtain⟨e0,e1,e2⟩:=hE.c3;have hml:=hM.lt;have htl:=h.aT;have hgl:=h.aU;have l7:=h.below hB;have h8:=fun i hi=>h.wide.at_ (i:=i) hi;have aX:=qd (sO tb gb e.key e.hash T mb mt gQ eP mo a0 l0 m c W l7 hP h64 (hM.below hB) hmt gH (hT.below hB) hz);have HW:=qd hW;have HB:=qd hB;have bQ:=qd (fun ap fp fs hap V hV=>gK tb gb e.key e.hash T ap fp fs hap V hV);unfold iq at bQ;rw[hsk]at bQ aX;rw[hfr]at aX;simp only[Option.map_none,bO,eX,Option.getD_none,Option.isSome_none]at bQ aX;unfold bU aG bK at aX;unfold bK aP at bQ;unfold bU aG aP;clear hW hB h hM;go_in;go_upto_region 1 with fail;rw[←HW.out];go_wp2_with fail;refine(aX.out).mono ?_;rintro x w1 ⟨ap,fp,rfl,hap,hfp,hM1,hm1⟩;obtain rfl:=hfp i s rfl;go_upto_region 2 with fail;have hS2:=aj.new w1 205 #[pQ tb,nU e.key,nU e.hash,.pointer ap,.int .i64 (-1),.pointer (some ⟨gb,i*25,none⟩),nI s];have hb2:=(Below.refl w1.heap.size w1).alloc (Nat.le_refl _) (.cells #[pQ tb,nU e.key,nU e.hash,.pointer ap,.int .i64 (-1),.pointer (some ⟨gb,i*25,none⟩),nI s] 205);obtain⟨w2,hw2⟩:∃w2,w2=w1.alloc (.cells #[pQ tb,nU e.key,nU e.hash,.pointer ap,.int .i64 (-1),.pointer (some ⟨gb,i*25,none⟩),nI s] 205):=⟨_,rfl⟩;rw[←hw2]at hS2 hb2⊢;clear hw2;have kD:=(l7.mod hm1 (by simp;omega) (by simp;omega)).below hb2;have hM2:=hM1.below hb2
 have hE2:=(hE.mod hm1 (by simp;omega)).below hb2 (hE.mod hm1 (by simp;omega)).lt;have hm2:=((Mod.of_below HB.out [mb,tb,gb]).then (hm1.more (by simp))).then (Mod.of_below hb2 [mb,tb,gb]);obtain⟨sp0,sp1,sp2,sp3,sp4,sp5,sp6⟩:=hS2.c7;clear l7 hM1 hm1 hE hb2;go_wp2_with fail;refine(bQ.out ap _ _ (fun _ _ hh=>by cases hh) w2 kD).mono ?_;rintro x w3 ⟨rfl,hb3⟩;have hb4:=bP ((Below.refl w3.heap.size w3).alloc (Nat.le_refl _) (.cells #[.int .u64 0,.int .u64 0,.int .u64 0] 166)) hb3;have Ky:=hS2.below hb4 hS2.lt;have hE4:=hE2.below hb4 hE2.lt;go_upto_region 5 with fail;obtain⟨w4,hw4⟩:∃w4,w4=w3.alloc (.cells #[.int .u64 0,.int .u64 0,.int .u64 0] 166):=⟨_,rfl⟩;rw[←hw4]at hb4 Ky hE4
 try rw[←hw4]
 clear hw4 hb3 hS2 hE2;have Df:=zD T.gs hP.pos e.key e.hash i s hfr
 have tZ:s<8:=by have:=h8 i Df.1;omega
 have jl:=qd (Bp tb gb ap T i s e Df.1 tZ h64 Df.2.2 hS hroom w4 (kD.below hb4));unfold bK aP at jl;have EP:=qd (hM2.below hb4);have E5:=qd (hm2.then (Mod.of_below hb4 [mb,tb,gb]));clear kD hM2 hm2 hb4;obtain⟨sq0,sq1,sq2,sq3,sq4,sq5,sq6⟩:=Ky.c7;obtain⟨eq0,eq1,eq2⟩:=hE4.c3;go_wp2_with fail;refine(jl.out).mono ?_;rintro x w5 ⟨rfl,oM,iR⟩;have HT5:=qd oM;have Ci:=qd (EP.out.mod iR (by simp;omega));have Af:=qd (E5.out.then (iR.more (by simp)));clear oM iR;go_wp2;refine bodyPost_ret (v:= .tuple #[.bool true,.nilIface]) (by simp[results,Tryz.results308,go_sem]) rfl ⟨rfl,HT5.out,Ci.out,Af.out⟩
section
variable {w : World} {base c n sz : Nat} {t : TypeId} {xs : List Value}
theorem PZ {g i:Nat}(h:w.ownsRow base t sz (.slice (some ⟨g,0,none⟩) n c) n xs)(u:Value):
  (w.setCell ⟨g,i,none⟩ u).ownsRow base t sz (.slice (some ⟨g,0,none⟩) n c) n (xs.set i u)∧Mod [g] w (w.setCell ⟨g,i,none⟩ u):=by
 rcases h.2 with⟨h2,_⟩|⟨g',cap,cur,hv,hg,hh,hcap,hmax,hsz,htk⟩
 ·cases h2
 ·injection hv with hv _ hc
  injection hv with hv
  injection hv with hv _ _
  subst hv hc;have hB:aj w g t cur:=hh;refine⟨⟨by rw[List.length_set];exact h.1,.inr ⟨g,c,_,rfl,hg,hB.ak i u,hcap,hmax,by simpa using hsz, ?_⟩⟩,(Mod.refl [g] w).ak (.inl (by simp)) i u⟩;rw[Array.toList_setIfInBounds,List.take_set,htk]
theorem abd {A:Option Addr}(h:w.ownsRow base t sz (.slice A n c) n xs)(hn:0<n):∃g,A=some ⟨g,0,none⟩∧g<w.heap.size∧base≤g∧n≤c∧(∀i,w.frozen? ⟨g,i,none⟩=false):=by
 rcases h.2 with⟨h2,h0⟩|⟨g,cap,cur,hv,hg,hh,hcap,hmax,hsz,htk⟩
 ·omega
 ·injection hv with hv _ hc
  subst hv hc;exact⟨g,rfl,(Array.getElem?_eq_some_iff.1 hh).1,hg,hcap,fun i=>by simp[World.frozen?,hh]⟩
end
section
variable {l : PL} {j key : Nat} {q : Nat × Nat}
def kC (q:Nat×Nat):Value:=nU q.1
def vC (q:Nat×Nat):Value:=nU q.2
def aeM (l:PL)(key:Nat)(y:Int):Prop:=(∃(i:Nat) (q:Nat×Nat),l[i]?=some q∧q.1=key∧y=(i:Int)∧∀k,k<i→∀q',l[k]?=some q'→q'.1≠key)∨((∀q∈l,q.1≠key)∧y= -1)
theorem Ii {w:World}{B:Nat}{A:Option Addr}{f:Nat×Nat→Value}(hR:Reads w B 1 A l.length (l.map f))(hj:l[j]?=some q):∃g off,A=some ⟨g,off,none⟩∧g<B∧w.cell? ⟨g,off+j,none⟩=some (f q):=by
 have hjl:=(List.getElem?_eq_some_iff.1 hj).1;obtain⟨g,off,h1,h2,h3⟩:=hR.2 (by omega);exact⟨g,off,h1,h2,h3 j _ (by rw[List.getElem?_map,hj];rfl)⟩
theorem E8 {m:Nat}(h:j<m):m-(intOf (.int .i64 ((j:Int)+1))).toNat<m-(intOf (nI j)).toNat:=by
 show m-((j:Int)+1).toNat<m-(j:Int).toNat;omega
end
section
section
variable {P : Program} {ops : Array Oper} {Q : Exit → Act → World → Prop} {md : Region.Mode} {S : World → Prop} {late : List Nat} {f : Nat} {listed : Array Bool} {a : Act} {w : World}
def ab6 (P:Program)(md:Region.Mode)(ops:Array Oper)(Q:Exit→Act→World→Prop)(S:World→Prop)(late:List Nat)(f:Nat)(listed:Array Bool)(a:Act)(w:World)(i:Nat):Prop:=
 ∃o,ops[i]?=some o∧∀K:Act→World→Prop,RowKit.Hid (∀a' w',(i∉late→S w')→bE P md ops Q S late f (listed.setIfInBounds i true) a' w'→K a' w')→if Region.wanted o (yielded ops a.tmps)=true then o.wp P a w K Q else K (a.put o.dst undef) w
def Nr (P:Program)(md:Region.Mode)(ops:Array Oper)(Q:Exit→Act→World→Prop)(S:World→Prop)(late:List Nat)(f:Nat)(listed:Array Bool)(a:Act)(w:World):List Nat→Prop
 | []=>True
 |i::l=>ab6 P md ops Q S late f listed a w i∧Nr P md ops Q S late f listed a w l
theorem Nr.Vh:∀{l:List Nat},Nr P md ops Q S late f listed a w l→∀i∈l,ab6 P md ops Q S late f listed a w i
 | [],_,_,h=>absurd h List.not_mem_nil
 |j::l,h,i,hi=>by
  rcases List.mem_cons.1 hi with rfl|hi
  ·exact h.1
  ·exact Nr.Vh h.2 i hi
theorem jI {is:List Nat}(hr:Region.ready md ops listed=is)(hne:is≠[])(h:Nr P md ops Q S late f listed a w is):bE P md ops Q S late (f+1) listed a w:=by
 refine⟨fun h0=>absurd (hr.symm.trans h0) hne,fun k hk=> ?_⟩;obtain⟨x,hx,h⟩:=h.Vh k (by rw[←hr];exact hk);have hun:listed.getD k true=false:=(mem_ready.1 hk).1;unfold wpOp;simp only[hx]
 have:=h (fun a' w'=>(Early late (listed.setIfInBounds k true)→S w')∧bE P md ops Q S late f (listed.setIfInBounds k true) a' w') (qd fun a' w' h1 h2=>⟨fun hE=>by
  by_cases hkn:k∈late
  ·have h3:=hE k hkn
   have hlt:k<listed.size:=by
    rcases Nat.lt_or_ge k listed.size with h'|h'
    ·exact h'
    ·simp[Array.getElem?_eq_none h']at hun
   simp[hlt]at h3
  ·exact h1 hkn,h2⟩)
 split
 ·next hw=>rw[if_pos hw]at this;exact .inl this
 ·next hw=>rw[if_neg hw]at this;exact this
theorem Mv {f0:Nat}{L0:Array Bool}{a0:Act}{v0:World}(h:∀W:Nat→Array Bool→Act→World→Prop,W=(fun f L a v=>bE P md ops Q S late f L a v)→W f0 L0 a0 v0):bE P md ops Q S late f0 L0 a0 v0:=h _ rfl
end
structure Rw where
 v:Value
 n:Nat
 xs:List Value
structure cu (b t sz:Nat)(v0 v:World)(rs:List (Option Rw)):Prop where
 below:Below b v0 v
 base:b≤v0.heap.size
 own:∀(i:Nat) (r:Rw),rs[i]?=some (some r)→v.ownsRow b t sz r.v r.n r.xs
 apart:∀(i j:Nat) (r s:Rw),i≠j→rs[i]?=some (some r)→rs[j]?=some (some s)→r.v.ownBlock=none∨r.v.ownBlock≠s.v.ownBlock
section
variable {b t sz : Nat} {v0 v w' : World} {rs : List (Option Rw)}
theorem Dg {i j:Nat}{x:Option Rw}{r:Rw}(h:(rs.set i x)[j]?=some (some r)):(j=i∧x=some r)∨(j≠i∧rs[j]?=some (some r)):=by
 by_cases hj:j=i
 ·subst hj;rw[List.getElem?_set_self']at h
  cases h1:rs[j]? with
  |none=>rw[h1]at h;cases h
  |some y=>rw[h1]at h;exact .inl ⟨rfl,Option.some.inj h⟩
 ·rw[List.getElem?_set_ne (fun h=>hj h.symm)]at h;exact .inr ⟨hj,h⟩
theorem pR {n:Nat}{u:Value}{xs:List Value}{q:Nat}(h:v.ownsRow b t sz u n xs)(hq:u.ownBlock=some q):b≤q∧q<v.heap.size:=by
 rcases h.2 with⟨rfl,_⟩|⟨g,cap,cur,rfl,h1,h2,_⟩
 ·cases hq
 ·obtain rfl:g=q:=by simpa[Value.ownBlock]using hq
  exact⟨h1,(Array.getElem?_eq_some_iff.1 h2).1⟩
theorem cu.drop (h:cu b t sz v0 v rs)(j:Nat):cu b t sz v0 v (rs.set j none):=by
 have hx:∀(i:Nat) (r:Rw),(rs.set j none)[i]?=some (some r)→rs[i]?=some (some r):=fun i r hi=>by
  rcases Dg hi with⟨_,h1⟩|⟨_,h1⟩
  ·cases h1
  ·exact h1
 exact⟨h.below,h.base,fun i r hi=>h.own i r (hx i r hi),fun i j r s hij hi hj=>h.apart i j r s hij (hx i r hi) (hx j s hj)⟩
theorem cu.put (h:cu b t sz v0 v rs)(i:Nat)(hb:Below b v0 w')(r':Rw)(hr:w'.ownsRow b t sz r'.v r'.n r'.xs)(hk:∀(j:Nat) (r:Rw),j≠i→rs[j]?=some (some r)→w'.ownsRow b t sz r.v r.n r.xs∧(r.v.ownBlock=none∨r.v.ownBlock≠r'.v.ownBlock)):cu b t sz v0 w' (rs.set i (some r')):=by
 refine⟨hb,h.base,fun j r hj=> ?_,fun j k r s hjk hj hk'=> ?_⟩
 ·rcases Dg hj with⟨_,h1⟩|⟨h1,h2⟩
  ·obtain rfl:=Option.some.inj h1;exact hr
  ·exact(hk j r h1 h2).1
 ·rcases Dg hj with⟨h1,h2⟩|⟨h1,h2⟩
  ·rcases Dg hk' with⟨h3,h4⟩|⟨h3,h4⟩
   ·exact absurd (h1.trans h3.symm) hjk
   ·obtain rfl:=Option.some.inj h2;rcases(hk k s h3 h4).2 with h5|h5
    ·cases hrb:r'.v.ownBlock with
     |none=>exact .inl rfl
     |some q=>exact .inr (by rw[h5];simp)
    ·exact .inr (fun e=>h5 e.symm)
  ·rcases Dg hk' with⟨h3,h4⟩|⟨h3,h4⟩
   ·obtain rfl:=Option.some.inj h4;exact(hk j r h1 h2).2
   ·exact h.apart j k r s hjk h2 h4
theorem cu.new (h:cu b t sz v0 v rs)(i:Nat)(cs:Array Value)(m:Nat)(hm:cs.size=m*sz)(hl:m≤maxLen):cu b t sz v0 (v.alloc (.cells cs t)) (rs.set i (some ⟨.slice (some ⟨v.heap.size,0,none⟩) m m,m,cs.toList⟩)):=by
 have hbv:b≤v.heap.size:=Nat.le_trans h.base h.below.size;refine h.put i (h.below.trans ((Below.refl b v).alloc hbv _)) _ ⟨by simpa using hm,.inr ⟨v.heap.size,m,cs,rfl,hbv,heap_alloc_new v _,Nat.le_refl _,hl,hm,by rw[←hm];exact List.take_of_length_le (by simp)⟩⟩ fun j r hj hr=> ?_;refine⟨(h.own j r hr).alloc _, ?_⟩
 cases hq:r.v.ownBlock with
 |none=>exact .inl rfl
 |some q=>
  have:=(pR (h.own j r hr) hq).2;exact .inr (by simp[Value.ownBlock];omega)
theorem cu.grow (h:cu b t sz v0 v rs)(i:Nat){r:Rw}(hi:rs[i]?=some (some r)){v':Value}{n':Nat}{ys:List Value}(hg:nA v b r.v w' v')(ho:w'.ownsRow b t sz v' n' ys):cu b t sz v0 w' (rs.set i (some ⟨v',n',ys⟩)):=by
 refine h.put i (h.below.trans hg.below) _ ho fun j s hj hs=>⟨hg.keep (h.own j s hs) (h.apart j i s r hj hs hi), ?_⟩;rcases hg.at_ with h1|⟨g,h1,h2⟩
 ·rw[h1];exact h.apart j i s r hj hs hi
 ·rw[h1]
  cases hq:s.v.ownBlock with
  |none=>exact .inl rfl
  |some q=>
   have:=(pR (h.own j s hs) hq).2;exact .inr (by simp;omega)
theorem cu.reads (h:cu b t sz v0 v rs)(i:Nat){r:Rw}(hi:rs[i]?=some (some r)){A:Option Addr}{m c:Nat}(hv:r.v= .slice A m c):Reads v v.heap.size sz A m r.xs:=by
 obtain⟨x,n,xs⟩:=r;simp only at hv;subst hv;have h1:v.ownsRow b t sz (.slice A m c) n xs:=h.own i _ hi;obtain⟨A',c',e⟩:=bA h1;cases e;exact Reads.fD h1
end
end
section
theorem YH:(Tryz.prog.info? 41).map (fun i=>(i.zero,i.size,i.bytes))=some (some (.int .u64 0),1,8):=by kernel_rfl
theorem uH:sH Tryz.prog 34 41 1 8:=AP Tryz.underlying34 YH rfl (by decide) (by decide)
theorem Dh (l:PL):((l.map kC).all fun u=>u.oneCell')=true:=by
 rw[List.all_eq_true];intro u hu;obtain⟨q,_,rfl⟩:=List.mem_map.1 hu;rfl
section
variable {P : Program} {ops : Array Oper} {Q : Exit → Act → World → Prop} {md : Region.Mode} {S : World → Prop} {late : List Nat} {WW : Nat → Array Bool → Act → World → Prop} {f : Nat} {L : Array Bool} {a : Act} {v : World}
theorem outT (h:WW=fun f L a v=>bE P md ops Q S late f L a v)(h1:WW f L a v):bE P md ops Q S late f L a v:=by subst h;exact h1
theorem inT (h:WW=fun f L a v=>bE P md ops Q S late f L a v)(h1:bE P md ops Q S late f L a v):WW f L a v:=by subst h;exact h1
theorem SG {f':Nat}{L':Array Bool}{a':Act}(h:WW f L a v)(hf:f'=f)(hL:L'=L)(ha:a'=a):WW f' L' a' v:=by subst hf;subst hL;subst ha;exact h
end
def frP (fb n M c d key val:Nat)(A B:Option Addr)(y40 y45 y47 y48 y49 y54 y56 y57:Value):Array Value:= #[pQ fb,nU key,nU val,undef,undef,undef,.int .i64 0,.int .i64 (-1),undef,pQ fb,nU key,.int .i64 (-1),.int .i64 (-1),.bool false,undef,undef,undef,undef,undef,undef,undef,undef,undef,undef,undef,undef,undef,undef,pQ fb,pQ fb,.pointer (some ⟨fb,1,none⟩),.slice A n c,nI n,pQ fb,pQ fb,pQ fb,nI M,.bool false,pQ fb,pQ fb,y40,pQ fb,pQ fb,.pointer (some ⟨fb,1,none⟩),.slice A n c,y45,nU key,y47,y48,y49,pQ fb,pQ fb,.pointer (some ⟨fb,2,none⟩),.slice B n d,y54,nU val,y56,y57,undef,undef,undef,undef]
theorem xS {w w':World}{S:List Nat}{base n sz:Nat}{t:TypeId}{v:Value}{xs:List Value}(h:w.ownsRow base t sz v n xs)(hm:Mod S w w')(hS:∀k∈S,k<base):w'.ownsRow base t sz v n xs:=by
 refine⟨h.1, ?_⟩;rcases h.2 with k|⟨g,cap,cur,rfl,k2,k3,k4⟩
 ·exact .inl k
 ·refine .inr ⟨g,cap,cur,rfl,k2, ?_,k4⟩;rw[hm.block g (Array.getElem?_eq_some_iff.1 k3).1 (fun hg=>Nat.not_lt.2 k2 (hS g hg))];exact k3
end
theorem nH {w:World}{b b' n sz:Nat}{t:TypeId}{v:Value}{xs:List Value}(h:w.ownsRow b t sz v n xs)(hb:b'≤b):w.ownsRow b' t sz v n xs:=
 ⟨h.1,h.2.imp id fun⟨g,cap,cur,h1,h2,h3⟩=>⟨g,cap,cur,h1,Nat.le_trans hb h2,h3⟩⟩
theorem ab7 {l:PL}{i:Nat}{q:Nat×Nat}(val:Nat)(h:l[i]?=some q):(l.set i (q.1,val)).map kC=l.map kC:=by
 rw[List.map_set];refine List.ext_getElem? fun j=> ?_;by_cases hj:j=i
 ·subst hj;have hl:=(List.getElem?_eq_some_iff.1 h).1;rw[List.getElem?_set_self (by simpa using hl),List.getElem?_map,h];rfl
 ·rw[List.getElem?_set_ne (fun e=>hj e.symm)]
section
variable {M base key n val : Nat} {l : PL} {w : World} {v : Value} {xs : List Value} {t : TypeId}
def adW (M:Nat)(l:PL)(key val:Nat):PL:=match l.findIdx? (fun p=>p.1==key)with
 |some i=>l.set i (key,val)
 |none=>if M≤l.length then l else l++[(key,val)]
theorem Bq {w':World}{S:List Nat}{sz:Nat}(h:w.ownsRow base t sz v n xs)(hm:Mod S w w')(hS:∀g,v.ownBlock=some g→g∉S):w'.ownsRow base t sz v n xs:=by
 refine⟨h.1, ?_⟩;rcases h.2 with k|⟨g,cap,cur,rfl,k2,k3,k4⟩
 ·exact .inl k
 ·refine .inr ⟨g,cap,cur,rfl,k2, ?_,k4⟩;rw[hm.block g (Array.getElem?_eq_some_iff.1 k3).1 (hS g (by simp[Value.ownBlock]))];exact k3
end
theorem Vi {w:World}{b t sz n q:Nat}{u:Value}{xs:List Value}(h:w.ownsRow b t sz u n xs)(hq:u.ownBlock=some q):q<w.heap.size:=(pR h hq).2
def afk (M:Nat)(l:PL):PL:=l.foldl (fun t q=>adW M t q.1 q.2) []
section
def fF (q:Nat×Nat):Value:= .float .f64 q.2
def pY (w:World)(base wb M:Nat)(F:List Nat)(l:PL):Prop:=(∃A c B d,aj w wb 37 #[.slice A l.length c,.slice B l.length d,nI M]∧w.ownsRow base 41 1 (.slice A l.length c) l.length (l.map kC)∧w.ownsRow base 38 1 (.slice B l.length d) l.length (l.map fF)∧(∀g,(Value.slice A l.length c).ownBlock=some g→g∉F)∧∀g,(Value.slice B l.length d).ownBlock=some g→g∉F)∧wb∉F∧base≤wb
section
variable {w w' : World} {base wb M : Nat} {F F' : List Nat} {l : PL}
theorem pY.lt (h:pY w base wb M F l):wb<w.heap.size:=by
 obtain⟨⟨A,c,B,d,h1,_⟩,_⟩:=h;exact h1.lt
theorem pY.below (h:pY w base wb M F l)(hb:Below w.heap.size w w'):pY w' base wb M F l:=by
 obtain⟨⟨A,c,B,d,h1,h2,h3,h4⟩,h5⟩:=h;exact⟨⟨A,c,B,d,h1.below hb h1.lt,own_below h2 hb (Nat.le_refl _),own_below h3 hb (Nat.le_refl _),h4⟩,h5⟩
theorem pY.mod (h:pY w base wb M F l)(hm:Mod F w w')(hF:∀q∈F',q∈F∨w.heap.size≤q):pY w' base wb M F' l:=by
 have hlt:=h.lt;obtain⟨⟨A,c,B,d,h1,h2,h3,h4,h5⟩,h6,h7⟩:=h;refine⟨⟨A,c,B,d,h1.mod hm h6,Bq h2 hm h4,Bq h3 hm h5,fun g hg Ij=> ?_,fun g hg Ij=> ?_⟩,fun Ij=> ?_,h7⟩
 ·rcases hF g Ij with k|k
  ·exact h4 g hg k
  ·exact absurd (Vi h2 hg) (Nat.not_lt.2 k)
 ·rcases hF g Ij with k|k
  ·exact h5 g hg k
  ·exact absurd (Vi h3 hg) (Nat.not_lt.2 k)
 ·rcases hF wb Ij with k|k
  ·exact h6 k
  ·omega
end
theorem QM {w:World}{base n q sz:Nat}{v:Value}{xs:List Value}{s t:TypeId}{cs:Array Value}(h:w.ownsRow base s sz v n xs)(hB:aj w q t cs)(ht:s≠t):∀g,v.ownBlock=some g→g≠q:=by
 intro g hg QN;rcases h.2 with⟨rfl,_⟩|⟨g',cap,cur,rfl,_,hh,_⟩
 ·cases hg
 ·obtain rfl:g'=g:=by simpa[Value.ownBlock]using hg
  rw[QN]at hh;have:=hh.symm.trans hB
  injection this with this
  injection this with _ h2 _
  exact ht h2
theorem Br (l:PL):((l.map fF).all fun u=>u.oneCell')=true:=by
 rw[List.all_eq_true];intro u hu;obtain⟨q,_,rfl⟩:=List.mem_map.1 hu;rfl
theorem YI:(Tryz.prog.info? 38).map (fun i=>(i.zero,i.size,i.bytes))=some (some (.float .f64 0),1,8):=by kernel_rfl
theorem oO:sH Tryz.prog 35 38 1 8:=AP Tryz.underlying35 YI rfl (by decide) (by decide)
end
section
variable {w : World} {M base wb : Nat} {l : PL} {F : List Nat}
theorem xI {c:Nat}{A:Option Addr}{u:Value}(hB:aj w wb 37 #[.slice A l.length c,u,nI M])(hR:Reads w w.heap.size 1 A l.length (l.map kC))(h9:l.length≤1000)(ha:je l)(key:Nat):
  Calls Tryz.prog 33 #[pQ wb,nU key] w fun e w'=>e= .returned (.tuple #[.int .i64 (gy l key:Int),.bool (kL l key)])∧Below w.heap.size w w':=by
 have c0:=hB.cell 0;simp only[gl]at c0;obtain⟨n,hn⟩:∃n,n=l.length:=⟨_,rfl⟩;rw[←hn]at c0 h9;have HR:=qd hR;have HN:=qd hn;have HA:=qd ha;have HL:=qd (Je l key);obtain⟨p,hp⟩:∃p,p=gy l key:=⟨_,rfl⟩;have HP:=qd hp;rw[←hp]at HL⊢;clear hB hR hn ha hp;go_in;go_wp2;go_loopw [6] (fun v6 wr=>wr=w∧∃j:Nat,j≤p∧v6=nI j) (fun v6 _=>n-(intOf v6).toNat)
 case atStart=>exact⟨rfl,0,by omega,rfl⟩
 case round=>
  obtain⟨rfl,j,hj,rfl⟩:=hrel;have hpn:=HL.out;rw[←HN.out]at hpn
  have hj0:(0:Int)≤(j:Int):=by omega
  by_cases hlt:j<n
  ·have hlt':(j:Int)<(n:Int):=by omega
   obtain⟨e,he⟩:∃e,l[j]?=some e:=⟨_,List.getElem?_eq_getElem (by have:=HN.out;omega)⟩;obtain⟨g,off,hA,hg,r0⟩:=Ii HR.out he;unfold kC at r0;have Vg:=xB (k:=key) HA.out he;rw[←HP.out]at Vg
   have hwj:IntKind.i64.wrap ((j:Int)+1)=((j+1:Nat):Int):=by rw[IntKind.wrap_i64];omega
   by_cases hk:e.1<key
   ·have hk':(e.1:Int)<(key:Int):=by omega
    have HJ:=qd (show j+1≤p by omega);have Cj:=qd (E8 hlt);subst hA;clear he hg Vg hk;go_wp2;go_roundw
    all_goals first|exact⟨trivial,j+1,HJ.out,rfl⟩|exact⟨rfl,j+1,HJ.out,rfl⟩|exact Cj.out
   ·have hk':¬(e.1:Int)<(key:Int):=by omega
    obtain rfl:j=p:=by omega
    have hdl:decide ((j:Int)<(n:Int))=true:=decide_eq_true hlt'
    have HI:=qd (show kL l key=decide ((e.1:Int)=(key:Int))from by
     unfold kL;rw[←HP.out,he];show(e.1==key)=_;rw[Bool.eq_iff_iff,beq_iff_eq,decide_eq_true_iff]
     omega)
    subst hA;clear he hg Vg hk;go_wp2_with fail;go_quiet (fail);go_wp2;go_ret2;exact⟨by rw[HI.out];first|(simp;done)|(simp;rfl),below_drewN (Below.refl _ _) _⟩
  ·obtain rfl:j=p:=by omega
   have hlt':¬(j:Int)<(n:Int):=by omega
   have hdl:decide ((j:Int)<(n:Int))=false:=decide_eq_false hlt'
   have HI:=qd (show kL l key=false from by
    unfold kL;rw[←HP.out,List.getElem?_eq_none (by have:=HN.out;omega)]
    rfl)
   go_wp2_with fail;go_quiet (fail);go_wp2;go_ret2;exact⟨by rw[HI.out];first|(simp;done)|(simp;rfl),below_drewN (Below.refl _ _) _⟩
theorem Vj (h:pY w base wb M F l)(h9:l.length≤1000)(ha:je l)(x:Nat)(hx:x<18446744073709551616):
  Calls Tryz.prog 9 #[pQ wb,nU x] w fun e w'=>e= .returned (.tuple #[.float .f64 ((oq l (aA x)).getD 0),.bool (oq l (aA x)).isSome])∧Below w.heap.size w w':=by
 obtain⟨⟨A,c,B,d,hB,hK,hV,_⟩,_⟩:=h;have HK:=qd (fun(W:World)=>mX x hx W);have HF:=qd (xI hB (Reads.fD hK) h9 ha (aA x));have HV:=qd (Reads.fD hV);have HB:=qd hB;have HA:=qd ha;clear hB hK hV ha
 cases hi:kL l (aA x)with
 |true=>
  rw[hi]at HF;obtain⟨v,hv,hg⟩:=(pG HA.out).1 hi;have HG:=qd hg;obtain⟨p,hp⟩:∃p,p=gy l (aA x):=⟨_,rfl⟩;rw[←hp]at hv HF;obtain⟨g,off,QO,hgl,r0⟩:=Ii HV.out hv;unfold fF at r0;obtain⟨n,hn⟩:∃n,n=l.length:=⟨_,rfl⟩
  have hpn:p<n:=by rw[hn];exact(List.getElem?_eq_some_iff.1 hv).1
  have afl:(p:Int)<(n:Int):=by omega
  have hp0:(0:Int)≤(p:Int):=by omega
  have HR:=qd (And.intro hgl r0);rw[←hn]at HB;subst QO;clear hi hv hg hp hgl r0 hn h9 hpn;go_in;go_wp2_with fail;refine(HK.out _).mono ?_;rintro y wq ⟨rfl,rfl⟩;go_wp2_with fail;refine HF.out.mono ?_;rintro y w1 ⟨rfl,hb1⟩;have c1:=(HB.out.below hb1 HB.out.lt).cell 1;simp only[gl]at c1;have r0:=aI hb1 HR.out.2;have HX:=qd hb1;clear hb1 HF HB HR;go_wp2;refine bodyPost_ret (v:= .tuple #[.float .f64 v,.bool true]) (by simp[results,Tryz.results9,go_sem]) rfl ⟨by rw[HG.out];rfl,HX.out⟩
 |false=>
  rw[hi]at HF;have HG:=qd (rz HA.out hi);clear hi h9 HB HV;go_in;go_wp2_with fail;refine(HK.out _).mono ?_;rintro y wq ⟨rfl,rfl⟩;go_wp2_with fail;refine HF.out.mono ?_;rintro y w1 ⟨rfl,hb1⟩;have HX:=qd hb1;clear hb1 HF;go_wp2;refine bodyPost_ret (v:= .tuple #[.float .f64 0,.bool false]) (by simp[results,Tryz.results9,go_sem]) rfl ⟨by rw[HG.out];rfl,HX.out⟩
theorem ab8 (h:pY w base wb M F l)(h9:l.length≤1000):
  Calls Tryz.prog 24 #[pQ wb] w fun e w'=>∃r,e= .returned (.float .f64 r)∧mD (ql l) r∧r<18446744073709551616∧Below w.heap.size w w':=by
 obtain⟨⟨A,c,B,d,hB,hK,hV,_⟩,_⟩:=h;have HV:=qd (Reads.fD hV);have c1:=hB.cell 1;simp only[gl]at c1;obtain⟨n,hn⟩:∃n,n=l.length:=⟨_,rfl⟩;have HN:=qd hn;rw[←hn]at c1 h9;have H0:=qd (show mD (ql (l.take 0)) 0∧0<18446744073709551616 from⟨rfl,by decide⟩);have HB0:=qd (Below.refl w.heap.size w);clear hB hK hV hn;go_in;go_wp2;go_loopw [3,5,11] (fun v3 _ v11 wr=>∃i s:Nat,i≤n∧v11=nI i∧v3= .float .f64 s∧Hid (mD (ql (l.take i)) s∧s<18446744073709551616)∧Hid (Below w.heap.size w wr)) (fun _ _ v11 _=>n-(intOf v11).toNat)
 case atStart=>exact⟨0,0,by omega,rfl,rfl,H0,HB0⟩
 case round=>
  clear H0 HB0;obtain⟨i,s,hi,rfl,rfl,HS,HB⟩:=hrel;by_cases hlt:i<n
  ·have hlt':(i:Int)<(n:Int):=by omega
   have hi0:(0:Int)≤(i:Int):=by omega
   obtain⟨q,hq⟩:∃q,l[i]?=some q:=⟨_,List.getElem?_eq_getElem (by have:=HN.out;omega)⟩;obtain⟨g,off,QO,hgl,k0⟩:=Ii HV.out hq;unfold fF at k0;have r0:=aI HB.out k0;obtain⟨r,w2,hadd,⟨Di,hrl⟩,hb2⟩:=AR s q.2 38 wr;have HS2:=qd (show mD (ql (l.take (i+1))) r∧r<18446744073709551616 from⟨by rw[JZ hq];exact MG HS.out.1 Di,hrl⟩);have HB2:=qd (HB.out.trans (hb2.mono HB.out.size));have HJ:=qd (Nat.succ_le_of_lt hlt);have Cj:=qd (E8 hlt)
   have hwi:IntKind.i64.wrap ((i:Int)+1)=((i+1:Nat):Int):=by rw[IntKind.wrap_i64];omega
   subst QO;clear hq k0 Di hrl hb2 HS HB hgl;go_wp2;go_roundw
   all_goals first|exact⟨i+1,r,HJ.out,rfl,rfl,HS2,HB2⟩|exact Cj.out
  ·obtain rfl:i=n:=by omega
   have hlt':¬(i:Int)<(i:Int):=by omega
   have HE:=qd (show mD (ql l) s∧s<18446744073709551616 from by
    have h:=HS.out;rw[List.take_of_length_le (Nat.le_of_eq HN.out.symm)]at h
    exact h)
   clear HS;go_wp2;go_ret;exact⟨_,rfl,HE.out.1,HE.out.2,HB.out⟩
end
end Go.Proofs.YtnfjjbpmhcbelaaGreatDoor
