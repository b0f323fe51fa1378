/- A node's Find, Put, Delete, told of its entries. -/
import Derived.Test.YtgkeameopnpinaaGreatDoorCoBH
import Derived.Test.YtgkeameopnpinaaGreatDoorSqM
import Derived.Test.YtgkeameopnpinaaGreatDoorLaneP
import Derived.Test.YtgkeameopnpinaaGreatDoorCoBU
namespace Go.Proofs.YtgkeameopnpinaaGreatDoor
open Go.RowKit bY
variable {c l : aZ} {cnt gX key p tX : Nat} {V w' : World} {TX : aB} {S : List Nat}
theorem CF (hp:c.p=(p:Int))(h:0≤l.p):∀n,0≤(eB l c n).p∧(eB l c n).p≤l.p+(p*n:Nat)
 |0=>⟨h,by show l.p≤_;omega⟩
 |n+1=>by
  obtain⟨h1,h2⟩:=CF hp h n;show 0≤qL _ _∧qL _ _≤_;rw[hp,Nat.mul_succ];unfold qL nJ;generalize(eB l c n).p=a at*;generalize p*n=b at*;omega
theorem CG (hp:c.u=(p:Int))(h:0≤l.u):∀n,0≤(eB l c n).u∧(eB l c n).u≤l.u+(p*n:Nat)
 |0=>⟨h,by show l.u≤_;omega⟩
 |n+1=>by
  obtain⟨h1,h2⟩:=CG hp h n;show 0≤qL _ _∧qL _ _≤_;rw[hp,Nat.mul_succ];unfold qL nJ;generalize(eB l c n).u=a at*;generalize p*n=b at*;omega
theorem wu (x:bI)(n:Nat):dI x (x.add cP n) n 0:=fun h1 h2=>by
 obtain⟨a,b⟩:=CF (c:=cP) (p:=1) rfl h1 n;obtain⟨c,d⟩:=CG (c:=cP) (p:=0) rfl h2 n;exact⟨a,by simpa[bI.add]using b,c,by simpa[bI.add]using d⟩
theorem Mj (x:bI)(n:Nat):dI x (x.add cV n) 0 0:=fun h1 h2=>by
 obtain⟨a,b⟩:=CF (c:=cV) (p:=0) rfl h1 n;obtain⟨c,d⟩:=CG (c:=cV) (p:=0) rfl h2 n;exact⟨a,by simpa[bI.add]using b,c,by simpa[bI.add]using d⟩
theorem rD (x:bI)(k:Nat):dI x (x.add (cU (k:Int)) 1) 0 k:=fun h1 h2=>by
 obtain⟨a,b⟩:=CF (c:=cU (k:Int)) (p:=0) rfl h1 1;obtain⟨c,d⟩:=CG (c:=cU (k:Int)) (p:=k) rfl h2 1;exact⟨a,by simpa[bI.add]using b,c,by simpa[bI.add]using d⟩
theorem uf {w U:World}(h:Below w.heap.size w V)(k:Below V.heap.size V U):Below w.heap.size w U:=((Mod.of_below h []).trans (Mod.of_below k []) (by simp) (by simp)).zw
theorem oO.next {w:World}{db hash:Nat}{P:MP}{x:bI}(h:oO w db P x c key hash tX gX TX cnt)(hV:Below w.heap.size w V):oO V db P x c key hash tX gX TX cnt:=fun U hU=>h U (uf hV hU)
theorem Through.out {w:World}{R:World→Prop}(h:Through (fun V V'=>R V'∧Mod S V V') w w')(_:∀k∈S,k<w.heap.size)(hR:∀(V':World) (g:Nat),w.heap.size≤g→R V'→Mod [g] V' w'→R w'):R w'∧Mod S w w':=by
 obtain⟨V,V',g,h1,⟨h2,h3⟩,h4,h5,h6⟩:=h;exact⟨hR V' g h4 h2 h6,((Mod.of_below h1 S).then h3).trans h6 (fun _ hh _=>hh) (fun q hq hl=>by simp at hq;omega)⟩
section
variable {W0 : World} {E : Nat → Addr} {H : Nat → Nat} {nb : Nat} {F : List Nat} {N : Nd} {P : MP} {x : bI} {w : World}
theorem TI (ho:dO H N)(h:Whr w H nb F N P x c key tX gX cnt TX):gN TX.gs key (H key)=look N.ents key:=by
 unfold gN;rcases h.G6 with⟨e,he,hk,hh,i,s,h1,h2⟩|⟨h1,_,h2,_⟩
 ·rw[h1,←hk,fP ho.keys he];show some ((aF TX.gs i s).ent)=some e;rw[h2];rfl
 ·rw[h2,BI h1];rfl
theorem ZG (key:Nat)(h:bG w nb F N)(ho:dO H N)(h64:H key<18446744073709551616)(hM:aM w P x)(hE:Env W0 E w)(hb0:W0.heap.size≤P.mb)(hF:P.mb∉F):
  Calls Tryz.prog 86 #[aK nb,aG (some ⟨P.mb,P.mo,none⟩) cP,nU key,.int .u64 (H key:Int)] w fun e w'=>e= .returned (eO (look N.ents key))∧∃x',aM w' P x'∧dI x x' 128 0∧Mod [P.mb] w w':=by
 obtain⟨tX,gX,cnt,TX,W⟩:=sI cP key h ho h64 hM hE hb0 hF;have yK:=TI ho W;have hmt:P.mb≠tX:=fun e=>hF (e▸W.inT);have fZ:P.mb≠gX:=fun e=>hF (e▸W.Jj)
 have fin:∀w',Through (fun V V'=>aM V' P (x.add cP cnt)∧Mod [P.mb] V V') w w'→∃x',aM w' P x'∧dI x x' 128 0∧Mod [P.mb] w w':=fun w' ht=>by
  obtain⟨h1,h2⟩:=ht.out (by simpa using hM.lt) (fun V' g hg hR hm=>hR.mod hm (by have:=hM.lt;simp;omega));exact⟨_,h1,(wu x cnt).mono W.G5 (Nat.le_refl _),h2⟩
 rcases W.call with⟨hb,hc⟩|⟨tb,db,hb,hS⟩
 ·refine(Kc nb tX N.pfx N.au N.kind key (H key) P cP ((look N.ents key).getD ⟨0,0,0⟩) (look N.ents key).isSome [P.mb] (fun V V'=>aM V' P (x.add cP cnt)∧Mod [P.mb] V V') w hb (by simpa using hM.lt) fun V hV=> ?_).mono fun e w' ⟨h1,h2⟩=>⟨h1,fin w' h2⟩;refine(Qs tX gX TX P.mb P.mt P.pre P.post P.mo x.all x.last P.m cP key (H key) V (W.tab.below hV) W.tg.ok.pow h64 (hM.below hV) hmt fZ (hE.next hV).tz (by have:=hE.Lc;omega)).mono fun e V' ⟨h1,h2,h3⟩=>⟨?_,h3, ?_,h3⟩
  ·rw[h1,yK];rfl
  ·rw[hc];exact h2
 ·refine(GQ nb tb db N.pfx N.au N.kind key (H key) P cP ((look N.ents key).getD ⟨0,0,0⟩) (look N.ents key).isSome [P.mb] (fun V V'=>aM V' P (x.add cP cnt)∧Mod [P.mb] V V') w hb (by simpa using hM.lt) fun V hV=> ?_).mono fun e w' ⟨h1,h2⟩=>⟨h1,fin w' h2⟩;refine(SV db tX gX cnt TX P x cP key (H key) V (hS.next hV) (W.tab.below hV) (hM.below hV).lt hmt fZ).mono fun e V' ⟨h1,h2,h3⟩=>⟨?_,h3,h2,h3⟩;rw[h1,yK];rfl
theorem Hf (key:Nat)(h:bG w nb F N)(ho:dO H N)(h64:H key<18446744073709551616)(hM:aM w P x)(hE:Env W0 E w)(hb0:W0.heap.size≤P.mb)(hF:P.mb∉F)(hk:∀e∈N.ents,e.key≠key):
  Calls Tryz.prog 96 #[aK nb,aG (some ⟨P.mb,P.mo,none⟩) cP,nU key,.int .u64 (H key:Int)] w fun e w'=>e= .returned (eO none)∧∃x',aM w' P x'∧dI x x' 128 0∧Mod [P.mb] w w':=by
 obtain⟨tX,gX,cnt,TX,W⟩:=sI cP key h ho h64 hM hE hb0 hF;have hmt:P.mb≠tX:=fun e=>hF (e▸W.inT);have fZ:P.mb≠gX:=fun e=>hF (e▸W.Jj)
 have hsk:(aI TX.gs key (H key)).1=none:=by
  rcases W.G6 with⟨e,he,hk',_⟩|⟨_,_,h2,_⟩
  ·exact absurd hk' (hk e he)
  ·exact h2
 have fin:∀w',Through (fun V V'=>aM V' P (x.add cP cnt)∧Mod [P.mb] V V') w w'→∃x',aM w' P x'∧dI x x' 128 0∧Mod [P.mb] w w':=fun w' ht=>by
  obtain⟨h1,h2⟩:=ht.out (by simpa using hM.lt) (fun V' g hg hR hm=>hR.mod hm (by have:=hM.lt;simp;omega));exact⟨_,h1,(wu x cnt).mono W.G5 (Nat.le_refl _),h2⟩
 rcases W.call with⟨hb,hc⟩|⟨tb,db,hb,hS⟩
 ·refine(xB nb tX N.pfx N.au N.kind key (H key) P cP ⟨0,0,0⟩ false [P.mb] (fun V V'=>aM V' P (x.add cP cnt)∧Mod [P.mb] V V') w hb (by simpa using hM.lt) fun V hV=> ?_).mono fun e w' ⟨h1,h2⟩=>⟨h1,fin w' h2⟩;refine(C8 tX gX TX P.mb P.mt P.pre P.post P.mo x.all x.last P.m cP key (H key) V (W.tab.below hV) W.tg.ok.pow h64 (hM.below hV) hmt fZ (hE.next hV).tz (by have:=hE.Lc;omega) hsk).mono fun e V' ⟨h1,_,h2,h3⟩=>⟨h1,h3, ?_,h3⟩;rw[hc];exact h2
 ·refine(vX nb tb db N.pfx N.au N.kind key (H key) P cP ⟨0,0,0⟩ false [P.mb] (fun V V'=>aM V' P (x.add cP cnt)∧Mod [P.mb] V V') w hb (by simpa using hM.lt) fun V hV=> ?_).mono fun e w' ⟨h1,h2⟩=>⟨h1,fin w' h2⟩;exact(Eb db tX gX cnt TX P x cP key (H key) V (hS.next hV) (W.tab.below hV) (hM.below hV).lt hmt fZ hsk).mono fun e V' ⟨h1,_,h2,h3⟩=>⟨h1,h3,h2,h3⟩
theorem TJ (key:Nat)(h:bG w nb F N)(ho:dO H N)(h64:H key<18446744073709551616)(hM:aM w P x)(hE:Env W0 E w)(hb0:W0.heap.size≤P.mb)(hF:P.mb∉F)(e0:av)(he0:e0∈N.ents)(hk:e0.key=key):
  Calls Tryz.prog 96 #[aK nb,aG (some ⟨P.mb,P.mo,none⟩) cP,nU key,.int .u64 (H key:Int)] w fun e w'=>e= .returned (eO (some e0))∧∃x' N',bG w' nb F N'∧Wr H [e0] [] N N'∧aM w' P x'∧dI x x' 128 0∧Mod (P.mb::F) w w':=by
 obtain⟨tX,gX,cnt,TX,W⟩:=sI cP key h ho h64 hM hE hb0 hF;have hmt:P.mb≠tX:=fun e=>hF (e▸W.inT);have fZ:P.mb≠gX:=fun e=>hF (e▸W.Jj)
 obtain⟨i,s,hs1,hs2⟩:∃i s,(aI TX.gs key (H key)).1=some (i,s)∧aF TX.gs i s= .full e0:=by
  rcases W.G6 with⟨e,he,hk',_,i,s,h1,h2⟩|⟨h1,_⟩
  ·have h3:=fP ho.keys he;have h4:=fP ho.keys he0;rw[hk']at h3;rw[hk,h3]at h4;cases h4;exact⟨i,s,h1,h2⟩
  ·exact absurd hk (h1 e0 he0)
 obtain⟨hch,_⟩:=LP W.tg hs2
 have hsub:∀k,k∈[P.mb,tX,gX]→k∈P.mb::F:=fun k hk=>by
  simp at hk;rcases hk with rfl|rfl|rfl
  ·simp
  ·simp[W.inT]
  ·simp[W.Jj]
 have hlts:∀k∈[P.mb,tX,gX],k<w.heap.size:=fun k hk=>by
  simp at hk;rcases hk with rfl|rfl|rfl
  ·exact hM.lt
  ·exact W.tab.aR
  ·exact W.tab.aS
 have fin:∀w',Through (fun V V'=>(TabAt V' tX gX (iE TX i s)∧aM V' P (x.add cP cnt))∧Mod [P.mb,tX,gX] V V') w w'→∃x' N',bG w' nb F N'∧Wr H [e0] [] N N'∧aM w' P x'∧dI x x' 128 0∧Mod (P.mb::F) w w':=fun w' ht=>by
  obtain⟨⟨h1,h3⟩,h2⟩:=ht.out hlts (fun V' g hg hR hm=>⟨hR.1.mod hm (by have:=hlts tX (by simp);simp;omega) (by have:=hlts gX (by simp);simp;omega),hR.2.mod hm (by have:=hM.lt;simp;omega)⟩)
  obtain⟨N',n1,n2⟩:=W.swap w' _ [e0] [] _ h1 hch (WK ho) (by simp) (by simp) h2 (fun q hq dH=>by
   simp at dH;rcases dH with rfl|rfl|rfl
   ·exact absurd hq hF
   ·exact .inl rfl
   ·exact .inr rfl)
  exact⟨_,N',n1,n2,h3,(wu x cnt).mono W.G5 (Nat.le_refl _),h2.more hsub⟩
 rcases W.call with⟨hb,hc⟩|⟨tb,db,hb,hS⟩
 ·refine(xB nb tX N.pfx N.au N.kind key (H key) P cP e0 true [P.mb,tX,gX] (fun V V'=>(TabAt V' tX gX (iE TX i s)∧aM V' P (x.add cP cnt))∧Mod [P.mb,tX,gX] V V') w hb hlts fun V hV=> ?_).mono fun e w' ⟨h1,h2⟩=>⟨h1,fin w' h2⟩;refine(Bt tX gX TX P.mb P.mt P.pre P.post P.mo x.all x.last P.m cP key (H key) V (W.tab.below hV) W.tg.ok.pow h64 (hM.below hV) hmt fZ (hE.next hV).tz (by have:=hE.Lc;omega) i s hs1 e0 hs2 W.tg.ok.small).mono fun e V' ⟨h1,h4,h2,h3⟩=>⟨h1,h3,⟨h4, ?_⟩,h3⟩;rw[hc];exact h2
 ·refine(vX nb tb db N.pfx N.au N.kind key (H key) P cP e0 true [P.mb,tX,gX] (fun V V'=>(TabAt V' tX gX (iE TX i s)∧aM V' P (x.add cP cnt))∧Mod [P.mb,tX,gX] V V') w hb hlts fun V hV=> ?_).mono fun e w' ⟨h1,h2⟩=>⟨h1,fin w' h2⟩;exact(C9 db tX gX cnt TX P x cP key (H key) V (hS.next hV) (W.tab.below hV) (hM.below hV).lt hmt fZ i s hs1 e0 hs2 W.tg.ok.small).mono fun e V' ⟨h1,h4,h2,h3⟩=>⟨h1,h3,⟨h4,h2⟩,h3⟩
theorem Wr.world {del add:List av}{X:aB}(_:aM w P x)(hF:P.mb∉F)(W:Whr w H nb F N P x cP key tX gX cnt TX)(h1:TabAt w' tX gX X)(hc:zL del add TX X)(ha:sV H N del add)(hh:∀e∈add,e.hash=H key)(hd:del=[]→(aI TX.gs key (H key)).1=none)(h2:Mod [P.mb,tX,gX] w w')(h3:aM w' P (x.add cP cnt)):
  ∃x' N',bG w' nb F N'∧Wr H del add N N'∧aM w' P x'∧dI x x' 128 0∧Mod (P.mb::F) w w':=by
 obtain⟨N',n1,n2⟩:=W.swap w' _ del add _ h1 hc ha hh hd h2 (fun q hq dH=>by
  simp at dH;rcases dH with rfl|rfl|rfl
  ·exact absurd hq hF
  ·exact .inl rfl
  ·exact .inr rfl)
 exact⟨_,N',n1,n2,h3,(wu x cnt).mono W.G5 (Nat.le_refl _),h2.more fun k hk=>by
  simp at hk;rcases hk with rfl|rfl|rfl
  ·simp
  ·simp[W.inT]
  ·simp[W.Jj]⟩
theorem Em {w:World}(hV:Below w.heap.size w V)(h:Mod S V w'):Mod S w w':=(Mod.of_below hV S).then h
theorem BP (e:av)(more:Bool)(h:bG w nb F N)(ho:dO H N)(hh:e.hash=H e.key)(h64:e.hash<18446744073709551616)(hv:e.val<18446744073709551616)(hM:aM w P x)(hE:Env W0 E w)(hb0:W0.heap.size≤P.mb)(hF:P.mb∉F)(e0:av)(he0:e0∈N.ents)(hk:e0.key=e.key):
  Calls Tryz.prog 100 #[aK nb,aG (some ⟨P.mb,P.mo,none⟩) cP,aO e,.bool more] w fun y w'=>y= .returned (.tuple #[.bool false,.nilIface])∧∃x' N',bG w' nb F N'∧Wr H [e0] [{e0 with val:=e.val}] N N'∧aM w' P x'∧dI x x' 128 0∧Mod (P.mb::F) w w':=by
 obtain⟨tX,gX,cnt,TX,W⟩:=sI cP e.key h ho (hh▸h64) hM hE hb0 hF;have hmt:P.mb≠tX:=fun e=>hF (e▸W.inT);have fZ:P.mb≠gX:=fun e=>hF (e▸W.Jj);have hmn:P.mb≠nb:=fun e=>hF (e▸h.Kz)
 obtain⟨i,s,hs1,hs2⟩:∃i s,(aI TX.gs e.key (H e.key)).1=some (i,s)∧aF TX.gs i s= .full e0:=by
  rcases W.G6 with⟨e1,he,hk',_,i,s,h1,h2⟩|⟨h1,_⟩
  ·have h3:=fP ho.keys he;have h4:=fP ho.keys he0;rw[hk']at h3;rw[hk,h3]at h4;cases h4;exact⟨i,s,h1,h2⟩
  ·exact absurd hk (h1 e0 he0)
 have hch:=QH (v:=e.val) W.tg hs2
 have hh0:∀y∈[({e0 with val:=e.val}:av)],y.hash=H e.key:=fun y hy=>by
  simp at hy;subst hy;rw[←hk];exact(ho.hash e0 he0).1.hash
 rw[←hh]at hs1;rcases W.call with⟨hb,hc⟩|⟨tb,db,hb,hS⟩
 ·refine(GU nb tX gX N.pfx N.au N.kind TX P x cP e more w hb W.tab W.tg.ok.pow h64 hM hE hb0 hmt fZ hmn W.ne.1 W.ne.2 i s hs1 e0 hs2).mono fun y w' ⟨h1,h2,h3,h4⟩=>⟨h1,Wr.world hM hF W h2 hch (Jh ho he0 hv) hh0 (by simp) h4 (by rw[hc,←hh];exact h3)⟩
 ·rw[←hh]at hS;refine(uE nb tb db N.pfx N.au N.kind P cP e more false .nilIface (fun V V'=>TabAt V' tX gX (replaceM TX i s e.val e0)∧aM V' P (x.add cP cnt)∧Mod [P.mb,tX,gX] V V') w hb fun V hV=> ?_).mono fun y w' ⟨h1,V,hV,h2,h3,h4⟩=>⟨h1,Wr.world hM hF W h2 hch (Jh ho he0 hv) hh0 (by simp) (Em hV h4) h3⟩;exact GN db tX gX cnt TX P x cP e V (hS.next hV) (W.tab.below hV) (hM.below hV).lt hmt fZ more i s hs1 e0 hs2
theorem QT (e:av)(h:bG w nb F N)(ho:dO H N)(he:jW H e)(ht:dM e.hash N.au=N.pfx)(hM:aM w P x)(hE:Env W0 E w)(hb0:W0.heap.size≤P.mb)(hF:P.mb∉F)(hk:∀y∈N.ents,y.key≠e.key)(hf:N.ents.length+1≤192)(hs:N.sl=0):
  Calls Tryz.prog 100 #[aK nb,aG (some ⟨P.mb,P.mo,none⟩) cP,aO e,.bool true] w fun y w'=>y= .returned (.tuple #[.bool true,.nilIface])∧∃x' N',bG w' nb F N'∧Wr H [] [e] N N'∧aM w' P x'∧dI x x' 128 0∧Mod (P.mb::F) w w':=by
 obtain⟨tX,gX,cnt,TX,W⟩:=sI cP e.key h ho (he.hash▸he.h64) hM hE hb0 hF;have hmt:P.mb≠tX:=fun e=>hF (e▸W.inT);have fZ:P.mb≠gX:=fun e=>hF (e▸W.Jj);have hmn:P.mb≠nb:=fun e=>hF (e▸h.Kz)
 obtain⟨FB,hroom⟩:(∀y∈aL TX.gs,y.key≠e.key)∧load TX+1≤7*TX.gs.length:=by
  rcases W.G6 with⟨e1,he1,hk',_⟩|⟨_,h2,_,h3⟩
  ·exact absurd hk' (hk e1 he1)
  ·exact⟨h2,h3 hs⟩
 obtain⟨hs1,i,s,hs2,hfr⟩:=OY W.tg FB (by omega);have hch:=LM W.tg hfr FB;have hld:=W.tg.QG
 have hh0:∀y∈[e],y.hash=H e.key:=fun y hy=>by simp at hy;subst hy;exact he.hash
 have hd:([]:List av)=[]→(aI TX.gs e.key (H e.key)).1=none:=fun _=>by rw[←he.hash];exact hs1
 rcases W.call with⟨hb,hc⟩|⟨tb,db,hb,hS⟩
 ·refine(LH nb tX gX N.pfx N.au N.kind TX P x cP e w hb W.tab W.tg.ok.pow he.h64 hM hE hb0 hmt fZ hmn W.ne.1 W.ne.2 hs1 i s hs2 W.tg.ok.small (by omega)).mono fun y w' ⟨h1,h2,h3,h4⟩=>⟨h1,Wr.world hM hF W h2 hch (O3 ho he ht hk hf hs) hh0 hd h4 (by rw[hc,←he.hash];exact h3)⟩
 ·rw[←he.hash]at hS;refine(uE nb tb db N.pfx N.au N.kind P cP e true true .nilIface (fun V V'=>TabAt V' tX gX (jf TX i s e)∧aM V' P (x.add cP cnt)∧Mod [P.mb,tX,gX] V V') w hb fun V hV=> ?_).mono fun y w' ⟨h1,V,hV,h2,h3,h4⟩=>⟨h1,Wr.world hM hF W h2 hch (O3 ho he ht hk hf hs) hh0 hd (Em hV h4) h3⟩;exact Lr db tX gX cnt TX P x cP e V (hS.next hV) (W.tab.below hV) (hM.below hV).lt hmt fZ W.tg.ok.pow he.h64 hs1 i s hs2 W.tg.ok.small (by omega)
theorem NY (e:av)(h:bG w nb F N)(ho:dO H N)(hh:e.hash=H e.key)(h64:e.hash<18446744073709551616)(hM:aM w P x)(hE:Env W0 E w)(hb0:W0.heap.size≤P.mb)(hF:P.mb∉F)(hk:∀y∈N.ents,y.key≠e.key):
  Calls Tryz.prog 100 #[aK nb,aG (some ⟨P.mb,P.mo,none⟩) cP,aO e,.bool false] w fun y w'=>y= .returned (.tuple #[.bool false,iQ E 2])∧∃x',aM w' P x'∧dI x x' 128 0∧Mod [P.mb] w w':=by
 obtain⟨tX,gX,cnt,TX,W⟩:=sI cP e.key h ho (hh▸h64) hM hE hb0 hF;have hmt:P.mb≠tX:=fun e=>hF (e▸W.inT);have fZ:P.mb≠gX:=fun e=>hF (e▸W.Jj);have hmn:P.mb≠nb:=fun e=>hF (e▸h.Kz)
 have hsk:(aI TX.gs e.key e.hash).1=none:=by
  rcases W.G6 with⟨e1,he1,hk',_⟩|⟨_,_,h2,_⟩
  ·exact absurd hk' (hk e1 he1)
  ·rw[hh];exact h2
 rcases W.call with⟨hb,hc⟩|⟨tb,db,hb,hS⟩
 ·exact(Ke nb tX gX N.pfx N.au N.kind TX P x cP e w hb W.tab W.tg.ok.pow h64 hM hE hb0 hmt fZ hmn W.ne.1 W.ne.2 hsk).mono fun y w' ⟨h1,_,h3,h4⟩=>⟨h1,_,h3,(wu x _).mono (by rw[hh,←hc];exact W.G5) (Nat.le_refl _),h4⟩
 ·rw[←hh]at hS;refine(uE nb tb db N.pfx N.au N.kind P cP e false false (iQ E 2) (fun V V'=>aM V' P (x.add cP cnt)∧Mod [P.mb] V V') w hb fun V hV=> ?_).mono fun y w' ⟨h1,V,hV,h3,h4⟩=>⟨h1,_,h3,(wu x _).mono W.G5 (Nat.le_refl _),Em hV h4⟩;exact(J6 db tX gX cnt TX P x cP e V (hS.next hV) (W.tab.below hV) (hM.below hV).lt hmt fZ (hE.next hV) hb0 hsk).mono fun y V' ⟨h1,_,h3,h4⟩=>⟨h1,h3,h4⟩
end
end Go.Proofs.YtgkeameopnpinaaGreatDoor
