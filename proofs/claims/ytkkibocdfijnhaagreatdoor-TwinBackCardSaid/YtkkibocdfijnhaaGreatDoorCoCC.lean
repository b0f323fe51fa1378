/- A node's Find, Put, Delete, told of its entries. -/
import Derived.Test.YtkkibocdfijnhaaGreatDoorCoBH
import Derived.Test.YtkkibocdfijnhaaGreatDoorSqM
import Derived.Test.YtkkibocdfijnhaaGreatDoorLaneP
import Derived.Test.YtkkibocdfijnhaaGreatDoorCoBU
namespace Go.Proofs.YtkkibocdfijnhaaGreatDoor
open Go.RowKit bV
variable {c l : bC} {cnt gX key p tX : Nat} {V w' : World} {TX : aC} {S : List Nat}
theorem DW (hp:c.p=(p:Int))(h:0≤l.p):∀n,0≤(eX l c n).p∧(eX l c n).p≤l.p+(p*n:Nat)
 |0=>⟨h,by show l.p≤_;omega⟩
 |n+1=>by
  obtain⟨h1,h2⟩:=DW hp h n;show 0≤rE _ _∧rE _ _≤_;rw[hp,Nat.mul_succ];unfold rE oz;generalize(eX l c n).p=a at*;generalize p*n=b at*;omega
theorem DX (hp:c.u=(p:Int))(h:0≤l.u):∀n,0≤(eX l c n).u∧(eX l c n).u≤l.u+(p*n:Nat)
 |0=>⟨h,by show l.u≤_;omega⟩
 |n+1=>by
  obtain⟨h1,h2⟩:=DX hp h n;show 0≤rE _ _∧rE _ _≤_;rw[hp,Nat.mul_succ];unfold rE oz;generalize(eX l c n).u=a at*;generalize p*n=b at*;omega
theorem xQ (x:bP)(n:Nat):dO x (x.add cP n) n 0:=fun h1 h2=>by
 obtain⟨a,b⟩:=DW (c:=cP) (p:=1) rfl h1 n;obtain⟨c,d⟩:=DX (c:=cP) (p:=0) rfl h2 n;exact⟨a,by simpa[bP.add]using b,c,by simpa[bP.add]using d⟩
theorem NS (x:bP)(n:Nat):dO x (x.add cV n) 0 0:=fun h1 h2=>by
 obtain⟨a,b⟩:=DW (c:=cV) (p:=0) rfl h1 n;obtain⟨c,d⟩:=DX (c:=cV) (p:=0) rfl h2 n;exact⟨a,by simpa[bP.add]using b,c,by simpa[bP.add]using d⟩
theorem rZ (x:bP)(k:Nat):dO x (x.add (cU (k:Int)) 1) 0 k:=fun h1 h2=>by
 obtain⟨a,b⟩:=DW (c:=cU (k:Int)) (p:=0) rfl h1 1;obtain⟨c,d⟩:=DX (c:=cU (k:Int)) (p:=k) rfl h2 1;exact⟨a,by simpa[bP.add]using b,c,by simpa[bP.add]using d⟩
theorem vo {w U:World}(h:Below w.heap.size w V)(k:Below V.heap.size V U):Below w.heap.size w U:=((Mod.of_below h []).trans (Mod.of_below k []) (by simp) (by simp)).wV
theorem pX.next {w:World}{db hash:Nat}{P:MP}{x:bP}(h:pX w db P x c key hash tX gX TX cnt)(hV:Below w.heap.size w V):pX V db P x c key hash tX gX TX cnt:=fun U hU=>h U (vo hV hU)
theorem Through.out {w:World}{R:World→Prop}(h:Through (fun V V'=>R V'∧Mod S V V') w w')(_:∀k∈S,k<w.heap.size)(hR:∀(V':World) (g:Nat),w.heap.size≤g→R V'→Mod [g] V' w'→R w'):R w'∧Mod S w w':=by
 obtain⟨V,V',g,h1,⟨h2,h3⟩,h4,h5,h6⟩:=h;exact⟨hR V' g h4 h2 h6,((Mod.of_below h1 S).then h3).trans h6 (fun _ hh _=>hh) (fun q hq hl=>by simp at hq;omega)⟩
section
variable {W0 : World} {E : Nat → Addr} {H : Nat → Nat} {nb : Nat} {F : List Nat} {N : Nd} {P : MP} {x : bP} {w : World}
theorem U8 (ho:dV H N)(h:Whr w H nb F N P x c key tX gX cnt TX):iA TX.gs key (H key)=look N.ents key:=by
 unfold iA;rcases h.Je with⟨e,he,hk,hh,i,s,h1,h2⟩|⟨h1,_,h2,_⟩
 ·rw[h1,←hk,je ho.keys he];show some ((aH TX.gs i s).ent)=some e;rw[h2];rfl
 ·rw[h2,CO h1];rfl
theorem aa1 (key:Nat)(h:bK w nb F N)(ho:dV H N)(h64:H key<18446744073709551616)(hM:aN w P x)(hE:Env W0 E w)(hb0:W0.heap.size≤P.mb)(hF:P.mb∉F):
  Calls Tryz.prog 70 #[aK nb,aI (some ⟨P.mb,P.mo,none⟩) cP,nU key,.int .u64 (H key:Int)] w fun e w'=>e= .returned (fE (look N.ents key))∧∃x',aN w' P x'∧dO x x' 128 0∧Mod [P.mb] w w':=by
 obtain⟨tX,gX,cnt,TX,W⟩:=tZ cP key h ho h64 hM hE hb0 hF;have zF:=U8 ho W;have hmt:P.mb≠tX:=fun e=>hF (e▸W.inT);have gU:P.mb≠gX:=fun e=>hF (e▸W.Kr)
 have fin:∀w',Through (fun V V'=>aN V' P (x.add cP cnt)∧Mod [P.mb] V V') w w'→∃x',aN w' P x'∧dO x x' 128 0∧Mod [P.mb] w w':=fun w' ht=>by
  obtain⟨h1,h2⟩:=ht.out (by simpa using hM.lt) (fun V' g hg hR hm=>hR.mod hm (by have:=hM.lt;simp;omega));exact⟨_,h1,(xQ x cnt).mono W.Jd (Nat.le_refl _),h2⟩
 rcases W.call with⟨hb,hc⟩|⟨tb,db,hb,hS⟩
 ·refine(Li nb tX N.pfx N.au N.kind key (H key) P cP ((look N.ents key).getD ⟨0,0,0⟩) (look N.ents key).isSome [P.mb] (fun V V'=>aN V' P (x.add cP cnt)∧Mod [P.mb] V V') w hb (by simpa using hM.lt) fun V hV=> ?_).mono fun e w' ⟨h1,h2⟩=>⟨h1,fin w' h2⟩;refine(RF tX gX TX P.mb P.mt P.pre P.post P.mo x.all x.last P.m cP key (H key) V (W.tab.below hV) W.tg.ok.pow h64 (hM.below hV) hmt gU (hE.next hV).tz (by have:=hE.MO;omega)).mono fun e V' ⟨h1,h2,h3⟩=>⟨?_,h3, ?_,h3⟩
  ·rw[h1,zF];rfl
  ·rw[hc];exact h2
 ·refine(I6 nb tb db N.pfx N.au N.kind key (H key) P cP ((look N.ents key).getD ⟨0,0,0⟩) (look N.ents key).isSome [P.mb] (fun V V'=>aN V' P (x.add cP cnt)∧Mod [P.mb] V V') w hb (by simpa using hM.lt) fun V hV=> ?_).mono fun e w' ⟨h1,h2⟩=>⟨h1,fin w' h2⟩;refine(Uz db tX gX cnt TX P x cP key (H key) V (hS.next hV) (W.tab.below hV) (hM.below hV).lt hmt gU).mono fun e V' ⟨h1,h2,h3⟩=>⟨?_,h3,h2,h3⟩;rw[h1,zF];rfl
theorem Jj (key:Nat)(h:bK w nb F N)(ho:dV H N)(h64:H key<18446744073709551616)(hM:aN w P x)(hE:Env W0 E w)(hb0:W0.heap.size≤P.mb)(hF:P.mb∉F)(hk:∀e∈N.ents,e.key≠key):
  Calls Tryz.prog 87 #[aK nb,aI (some ⟨P.mb,P.mo,none⟩) cP,nU key,.int .u64 (H key:Int)] w fun e w'=>e= .returned (fE none)∧∃x',aN w' P x'∧dO x x' 128 0∧Mod [P.mb] w w':=by
 obtain⟨tX,gX,cnt,TX,W⟩:=tZ cP key h ho h64 hM hE hb0 hF;have hmt:P.mb≠tX:=fun e=>hF (e▸W.inT);have gU:P.mb≠gX:=fun e=>hF (e▸W.Kr)
 have hsk:(aJ TX.gs key (H key)).1=none:=by
  rcases W.Je with⟨e,he,hk',_⟩|⟨_,_,h2,_⟩
  ·exact absurd hk' (hk e he)
  ·exact h2
 have fin:∀w',Through (fun V V'=>aN V' P (x.add cP cnt)∧Mod [P.mb] V V') w w'→∃x',aN w' P x'∧dO x x' 128 0∧Mod [P.mb] w w':=fun w' ht=>by
  obtain⟨h1,h2⟩:=ht.out (by simpa using hM.lt) (fun V' g hg hR hm=>hR.mod hm (by have:=hM.lt;simp;omega));exact⟨_,h1,(xQ x cnt).mono W.Jd (Nat.le_refl _),h2⟩
 rcases W.call with⟨hb,hc⟩|⟨tb,db,hb,hS⟩
 ·refine(yJ nb tX N.pfx N.au N.kind key (H key) P cP ⟨0,0,0⟩ false [P.mb] (fun V V'=>aN V' P (x.add cP cnt)∧Mod [P.mb] V V') w hb (by simpa using hM.lt) fun V hV=> ?_).mono fun e w' ⟨h1,h2⟩=>⟨h1,fin w' h2⟩;refine(Eb tX gX TX P.mb P.mt P.pre P.post P.mo x.all x.last P.m cP key (H key) V (W.tab.below hV) W.tg.ok.pow h64 (hM.below hV) hmt gU (hE.next hV).tz (by have:=hE.MO;omega) hsk).mono fun e V' ⟨h1,_,h2,h3⟩=>⟨h1,h3, ?_,h3⟩;rw[hc];exact h2
 ·refine(xI nb tb db N.pfx N.au N.kind key (H key) P cP ⟨0,0,0⟩ false [P.mb] (fun V V'=>aN V' P (x.add cP cnt)∧Mod [P.mb] V V') w hb (by simpa using hM.lt) fun V hV=> ?_).mono fun e w' ⟨h1,h2⟩=>⟨h1,fin w' h2⟩;exact(Fj db tX gX cnt TX P x cP key (H key) V (hS.next hV) (W.tab.below hV) (hM.below hV).lt hmt gU hsk).mono fun e V' ⟨h1,_,h2,h3⟩=>⟨h1,h3,h2,h3⟩
theorem U9 (key:Nat)(h:bK w nb F N)(ho:dV H N)(h64:H key<18446744073709551616)(hM:aN w P x)(hE:Env W0 E w)(hb0:W0.heap.size≤P.mb)(hF:P.mb∉F)(e0:ay)(he0:e0∈N.ents)(hk:e0.key=key):
  Calls Tryz.prog 87 #[aK nb,aI (some ⟨P.mb,P.mo,none⟩) cP,nU key,.int .u64 (H key:Int)] w fun e w'=>e= .returned (fE (some e0))∧∃x' N',bK w' nb F N'∧Wr H [e0] [] N N'∧aN w' P x'∧dO x x' 128 0∧Mod (P.mb::F) w w':=by
 obtain⟨tX,gX,cnt,TX,W⟩:=tZ cP key h ho h64 hM hE hb0 hF;have hmt:P.mb≠tX:=fun e=>hF (e▸W.inT);have gU:P.mb≠gX:=fun e=>hF (e▸W.Kr)
 obtain⟨i,s,hs1,hs2⟩:∃i s,(aJ TX.gs key (H key)).1=some (i,s)∧aH TX.gs i s= .full e0:=by
  rcases W.Je with⟨e,he,hk',_,i,s,h1,h2⟩|⟨h1,_⟩
  ·have h3:=je ho.keys he;have h4:=je ho.keys he0;rw[hk']at h3;rw[hk,h3]at h4;cases h4;exact⟨i,s,h1,h2⟩
  ·exact absurd hk (h1 e0 he0)
 obtain⟨hch,_⟩:=Nu W.tg hs2
 have hsub:∀k,k∈[P.mb,tX,gX]→k∈P.mb::F:=fun k hk=>by
  simp at hk;rcases hk with rfl|rfl|rfl
  ·simp
  ·simp[W.inT]
  ·simp[W.Kr]
 have hlts:∀k∈[P.mb,tX,gX],k<w.heap.size:=fun k hk=>by
  simp at hk;rcases hk with rfl|rfl|rfl
  ·exact hM.lt
  ·exact W.tab.aR
  ·exact W.tab.aS
 have fin:∀w',Through (fun V V'=>(TabAt V' tX gX (iP TX i s)∧aN V' P (x.add cP cnt))∧Mod [P.mb,tX,gX] V V') w w'→∃x' N',bK w' nb F N'∧Wr H [e0] [] N N'∧aN w' P x'∧dO x x' 128 0∧Mod (P.mb::F) w w':=fun w' ht=>by
  obtain⟨⟨h1,h3⟩,h2⟩:=ht.out hlts (fun V' g hg hR hm=>⟨hR.1.mod hm (by have:=hlts tX (by simp);simp;omega) (by have:=hlts gX (by simp);simp;omega),hR.2.mod hm (by have:=hM.lt;simp;omega)⟩)
  obtain⟨N',n1,n2⟩:=W.swap w' _ [e0] [] _ h1 hch (Ya ho) (by simp) (by simp) h2 (fun q hq dN=>by
   simp at dN;rcases dN with rfl|rfl|rfl
   ·exact absurd hq hF
   ·exact .inl rfl
   ·exact .inr rfl)
  exact⟨_,N',n1,n2,h3,(xQ x cnt).mono W.Jd (Nat.le_refl _),h2.more hsub⟩
 rcases W.call with⟨hb,hc⟩|⟨tb,db,hb,hS⟩
 ·refine(yJ nb tX N.pfx N.au N.kind key (H key) P cP e0 true [P.mb,tX,gX] (fun V V'=>(TabAt V' tX gX (iP TX i s)∧aN V' P (x.add cP cnt))∧Mod [P.mb,tX,gX] V V') w hb hlts fun V hV=> ?_).mono fun e w' ⟨h1,h2⟩=>⟨h1,fin w' h2⟩;refine(Cw tX gX TX P.mb P.mt P.pre P.post P.mo x.all x.last P.m cP key (H key) V (W.tab.below hV) W.tg.ok.pow h64 (hM.below hV) hmt gU (hE.next hV).tz (by have:=hE.MO;omega) i s hs1 e0 hs2 W.tg.ok.small).mono fun e V' ⟨h1,h4,h2,h3⟩=>⟨h1,h3,⟨h4, ?_⟩,h3⟩;rw[hc];exact h2
 ·refine(xI nb tb db N.pfx N.au N.kind key (H key) P cP e0 true [P.mb,tX,gX] (fun V V'=>(TabAt V' tX gX (iP TX i s)∧aN V' P (x.add cP cnt))∧Mod [P.mb,tX,gX] V V') w hb hlts fun V hV=> ?_).mono fun e w' ⟨h1,h2⟩=>⟨h1,fin w' h2⟩;exact(Ec db tX gX cnt TX P x cP key (H key) V (hS.next hV) (W.tab.below hV) (hM.below hV).lt hmt gU i s hs1 e0 hs2 W.tg.ok.small).mono fun e V' ⟨h1,h4,h2,h3⟩=>⟨h1,h3,⟨h4,h2⟩,h3⟩
theorem Wr.world {del add:List ay}{X:aC}(_:aN w P x)(hF:P.mb∉F)(W:Whr w H nb F N P x cP key tX gX cnt TX)(h1:TabAt w' tX gX X)(hc:AP del add TX X)(ha:uI H N del add)(hh:∀e∈add,e.hash=H key)(hd:del=[]→(aJ TX.gs key (H key)).1=none)(h2:Mod [P.mb,tX,gX] w w')(h3:aN w' P (x.add cP cnt)):
  ∃x' N',bK w' nb F N'∧Wr H del add N N'∧aN w' P x'∧dO x x' 128 0∧Mod (P.mb::F) w w':=by
 obtain⟨N',n1,n2⟩:=W.swap w' _ del add _ h1 hc ha hh hd h2 (fun q hq dN=>by
  simp at dN;rcases dN with rfl|rfl|rfl
  ·exact absurd hq hF
  ·exact .inl rfl
  ·exact .inr rfl)
 exact⟨_,N',n1,n2,h3,(xQ x cnt).mono W.Jd (Nat.le_refl _),h2.more fun k hk=>by
  simp at hk;rcases hk with rfl|rfl|rfl
  ·simp
  ·simp[W.inT]
  ·simp[W.Kr]⟩
theorem FB {w:World}(hV:Below w.heap.size w V)(h:Mod S V w'):Mod S w w':=(Mod.of_below hV S).then h
theorem CV (e:ay)(more:Bool)(h:bK w nb F N)(ho:dV H N)(hh:e.hash=H e.key)(h64:e.hash<18446744073709551616)(hv:e.val<18446744073709551616)(hM:aN w P x)(hE:Env W0 E w)(hb0:W0.heap.size≤P.mb)(hF:P.mb∉F)(e0:ay)(he0:e0∈N.ents)(hk:e0.key=e.key):
  Calls Tryz.prog 82 #[aK nb,aI (some ⟨P.mb,P.mo,none⟩) cP,aP e,.bool more] w fun y w'=>y= .returned (.tuple #[.bool false,.nilIface])∧∃x' N',bK w' nb F N'∧Wr H [e0] [{e0 with val:=e.val}] N N'∧aN w' P x'∧dO x x' 128 0∧Mod (P.mb::F) w w':=by
 obtain⟨tX,gX,cnt,TX,W⟩:=tZ cP e.key h ho (hh▸h64) hM hE hb0 hF;have hmt:P.mb≠tX:=fun e=>hF (e▸W.inT);have gU:P.mb≠gX:=fun e=>hF (e▸W.Kr);have hmn:P.mb≠nb:=fun e=>hF (e▸h.LX)
 obtain⟨i,s,hs1,hs2⟩:∃i s,(aJ TX.gs e.key (H e.key)).1=some (i,s)∧aH TX.gs i s= .full e0:=by
  rcases W.Je with⟨e1,he,hk',_,i,s,h1,h2⟩|⟨h1,_⟩
  ·have h3:=je ho.keys he;have h4:=je ho.keys he0;rw[hk']at h3;rw[hk,h3]at h4;cases h4;exact⟨i,s,h1,h2⟩
  ·exact absurd hk (h1 e0 he0)
 have hch:=RZ (v:=e.val) W.tg hs2
 have hh0:∀y∈[({e0 with val:=e.val}:ay)],y.hash=H e.key:=fun y hy=>by
  simp at hy;subst hy;rw[←hk];exact(ho.hash e0 he0).1.hash
 rw[←hh]at hs1;rcases W.call with⟨hb,hc⟩|⟨tb,db,hb,hS⟩
 ·refine(I8 nb tX gX N.pfx N.au N.kind TX P x cP e more w hb W.tab W.tg.ok.pow h64 hM hE hb0 hmt gU hmn W.ne.1 W.ne.2 i s hs1 e0 hs2).mono fun y w' ⟨h1,h2,h3,h4⟩=>⟨h1,Wr.world hM hF W h2 hch (Ko ho he0 hv) hh0 (by simp) h4 (by rw[hc,←hh];exact h3)⟩
 ·rw[←hh]at hS;refine(vO nb tb db N.pfx N.au N.kind P cP e more false .nilIface (fun V V'=>TabAt V' tX gX (replaceM TX i s e.val e0)∧aN V' P (x.add cP cnt)∧Mod [P.mb,tX,gX] V V') w hb fun V hV=> ?_).mono fun y w' ⟨h1,V,hV,h2,h3,h4⟩=>⟨h1,Wr.world hM hF W h2 hch (Ko ho he0 hv) hh0 (by simp) (FB hV h4) h3⟩;exact I5 db tX gX cnt TX P x cP e V (hS.next hV) (W.tab.below hV) (hM.below hV).lt hmt gU more i s hs1 e0 hs2
theorem Sc (e:ay)(h:bK w nb F N)(ho:dV H N)(he:jK H e)(ht:dW e.hash N.au=N.pfx)(hM:aN w P x)(hE:Env W0 E w)(hb0:W0.heap.size≤P.mb)(hF:P.mb∉F)(hk:∀y∈N.ents,y.key≠e.key)(hf:N.ents.length+1≤192)(hs:N.sl=0):
  Calls Tryz.prog 82 #[aK nb,aI (some ⟨P.mb,P.mo,none⟩) cP,aP e,.bool true] w fun y w'=>y= .returned (.tuple #[.bool true,.nilIface])∧∃x' N',bK w' nb F N'∧Wr H [] [e] N N'∧aN w' P x'∧dO x x' 128 0∧Mod (P.mb::F) w w':=by
 obtain⟨tX,gX,cnt,TX,W⟩:=tZ cP e.key h ho (he.hash▸he.h64) hM hE hb0 hF;have hmt:P.mb≠tX:=fun e=>hF (e▸W.inT);have gU:P.mb≠gX:=fun e=>hF (e▸W.Kr);have hmn:P.mb≠nb:=fun e=>hF (e▸h.LX)
 obtain⟨GX,hroom⟩:(∀y∈aM TX.gs,y.key≠e.key)∧load TX+1≤7*TX.gs.length:=by
  rcases W.Je with⟨e1,he1,hk',_⟩|⟨_,h2,_,h3⟩
  ·exact absurd hk' (hk e1 he1)
  ·exact⟨h2,h3 hs⟩
 obtain⟨hs1,i,s,hs2,hfr⟩:=Qq W.tg GX (by omega);have hch:=Nt W.tg hfr GX;have hld:=W.tg.RY
 have hh0:∀y∈[e],y.hash=H e.key:=fun y hy=>by simp at hy;subst hy;exact he.hash
 have hd:([]:List ay)=[]→(aJ TX.gs e.key (H e.key)).1=none:=fun _=>by rw[←he.hash];exact hs1
 rcases W.call with⟨hb,hc⟩|⟨tb,db,hb,hS⟩
 ·refine(Np nb tX gX N.pfx N.au N.kind TX P x cP e w hb W.tab W.tg.ok.pow he.h64 hM hE hb0 hmt gU hmn W.ne.1 W.ne.2 hs1 i s hs2 W.tg.ok.small (by omega)).mono fun y w' ⟨h1,h2,h3,h4⟩=>⟨h1,Wr.world hM hF W h2 hch (Qu ho he ht hk hf hs) hh0 hd h4 (by rw[hc,←he.hash];exact h3)⟩
 ·rw[←he.hash]at hS;refine(vO nb tb db N.pfx N.au N.kind P cP e true true .nilIface (fun V V'=>TabAt V' tX gX (jE TX i s e)∧aN V' P (x.add cP cnt)∧Mod [P.mb,tX,gX] V V') w hb fun V hV=> ?_).mono fun y w' ⟨h1,V,hV,h2,h3,h4⟩=>⟨h1,Wr.world hM hF W h2 hch (Qu ho he ht hk hf hs) hh0 hd (FB hV h4) h3⟩;exact Na db tX gX cnt TX P x cP e V (hS.next hV) (W.tab.below hV) (hM.below hV).lt hmt gU W.tg.ok.pow he.h64 hs1 i s hs2 W.tg.ok.small (by omega)
theorem Pv (e:ay)(h:bK w nb F N)(ho:dV H N)(hh:e.hash=H e.key)(h64:e.hash<18446744073709551616)(hM:aN w P x)(hE:Env W0 E w)(hb0:W0.heap.size≤P.mb)(hF:P.mb∉F)(hk:∀y∈N.ents,y.key≠e.key):
  Calls Tryz.prog 82 #[aK nb,aI (some ⟨P.mb,P.mo,none⟩) cP,aP e,.bool false] w fun y w'=>y= .returned (.tuple #[.bool false,dK E 2])∧∃x',aN w' P x'∧dO x x' 128 0∧Mod [P.mb] w w':=by
 obtain⟨tX,gX,cnt,TX,W⟩:=tZ cP e.key h ho (hh▸h64) hM hE hb0 hF;have hmt:P.mb≠tX:=fun e=>hF (e▸W.inT);have gU:P.mb≠gX:=fun e=>hF (e▸W.Kr);have hmn:P.mb≠nb:=fun e=>hF (e▸h.LX)
 have hsk:(aJ TX.gs e.key e.hash).1=none:=by
  rcases W.Je with⟨e1,he1,hk',_⟩|⟨_,_,h2,_⟩
  ·exact absurd hk' (hk e1 he1)
  ·rw[hh];exact h2
 rcases W.call with⟨hb,hc⟩|⟨tb,db,hb,hS⟩
 ·exact(Lj nb tX gX N.pfx N.au N.kind TX P x cP e w hb W.tab W.tg.ok.pow h64 hM hE hb0 hmt gU hmn W.ne.1 W.ne.2 hsk).mono fun y w' ⟨h1,_,h3,h4⟩=>⟨h1,_,h3,(xQ x _).mono (by rw[hh,←hc];exact W.Jd) (Nat.le_refl _),h4⟩
 ·rw[←hh]at hS;refine(vO nb tb db N.pfx N.au N.kind P cP e false false (dK E 2) (fun V V'=>aN V' P (x.add cP cnt)∧Mod [P.mb] V V') w hb fun V hV=> ?_).mono fun y w' ⟨h1,V,hV,h3,h4⟩=>⟨h1,_,h3,(xQ x _).mono W.Jd (Nat.le_refl _),FB hV h4⟩;exact(Ld db tX gX cnt TX P x cP e V (hS.next hV) (W.tab.below hV) (hM.below hV).lt hmt gU (hE.next hV) hb0 hsk).mono fun y V' ⟨h1,_,h3,h4⟩=>⟨h1,h3,h4⟩
end
end Go.Proofs.YtkkibocdfijnhaaGreatDoor
