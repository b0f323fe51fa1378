/- A node's Find, Put, Delete, told of its entries. -/
import Derived.Test.YtkddpchpcepjgaaGreatDoorCoBU
namespace Go.Proofs.YtkddpchpcepjgaaGreatDoor
open Go.RowKit cu
variable {c l : bE} {cnt gX key p tX : Nat} {V w' : World} {TX : aC} {S : List Nat}
theorem Fw (hp:c.p=(p:Int))(h:0<=l.p):∀n,0<=(fF l c n).p/\(fF l c n).p<=l.p+(p*n:Nat)
 |0=>⟨h,by show l.p<=_;omega⟩
 |n+1=>by
  obtain⟨h1,h2⟩:=Fw hp h n;show 0<=tq _ _/\tq _ _<=_;rw[hp,Nat.mul_succ];unfold tq pK;generalize(fF l c n).p=a at*;generalize p*n=b at*;omega
theorem Fx (hp:c.u=(p:Int))(h:0<=l.u):∀n,0<=(fF l c n).u/\(fF l c n).u<=l.u+(p*n:Nat)
 |0=>⟨h,by show l.u<=_;omega⟩
 |n+1=>by
  obtain⟨h1,h2⟩:=Fx hp h n;show 0<=tq _ _/\tq _ _<=_;rw[hp,Nat.mul_succ];unfold tq pK;generalize(fF l c n).u=a at*;generalize p*n=b at*;omega
theorem zh (x:bS)(n:Nat):dU x (x.add cP n) n 0:=λh1 h2=>by
 obtain⟨a,b⟩:=Fw (c:=cP) (p:=1) rfl h1 n;obtain⟨c,d⟩:=Fx (c:=cP) (p:=0) rfl h2 n;exact⟨a,by simpa[bS.add]using b,c,by simpa[bS.add]using d⟩
theorem P7 (x:bS)(n:Nat):dU x (x.add cV n) 0 0:=λh1 h2=>by
 obtain⟨a,b⟩:=Fw (c:=cV) (p:=0) rfl h1 n;obtain⟨c,d⟩:=Fx (c:=cV) (p:=0) rfl h2 n;exact⟨a,by simpa[bS.add]using b,c,by simpa[bS.add]using d⟩
theorem tZ (x:bS)(k:Nat):dU x (x.add (cU (k:Int)) 1) 0 k:=λh1 h2=>by
 obtain⟨a,b⟩:=Fw (c:=cU (k:Int)) (p:=0) rfl h1 1;obtain⟨c,d⟩:=Fx (c:=cU (k:Int)) (p:=k) rfl h2 1;exact⟨a,by simpa[bS.add]using b,c,by simpa[bS.add]using d⟩
theorem wP {w U:World}(h:Below w.heap.size w V)(k:Below V.heap.size V U):Below w.heap.size w U:=((Mod.of_below h []).trans (Mod.of_below k []) (by simp) (by simp)).yG
theorem qW.next {w:World}{db hash:Nat}{P:MP}{x:bS}(h:qW w db P x c key hash tX gX TX cnt)(hV:Below w.heap.size w V):qW V db P x c key hash tX gX TX cnt:=λU hU=>h U (wP hV hU)
theorem Through.o {w:World}{R:World->Prop}(h:Through (λV V'=>R V'/\Mod S V V') w w')(_:∀k∈S,k<w.heap.size)(hR:∀(V':World) (g:Nat),w.heap.size<=g->R V'->Mod [g] V' w'->R w'):R w'/\Mod S w w':=by
 obtain⟨V,V',g,h1,⟨h2,h3⟩,h4,h5,h6⟩:=h;exact⟨hR V' g h4 h2 h6,((Mod.of_below h1 S).then h3).trans h6 (λ_ hh _=>hh) (λq hq hl=>by simp at hq;omega)⟩
section
variable {W0 : World} {E : Nat -> Addr} {H : Nat -> Nat} {nb : Nat} {F : List Nat} {N : Nd} {P : MP} {x : bS} {w : World}
theorem XL (ho:dY H N)(h:Whr w H nb F N P x c key tX gX cnt TX):iQ TX.gs key (H key)=look N.ents key:=by
 unfold iQ;rcases h.KL with⟨e,he,hk,hh,i,s,h1,h2⟩|⟨h1,_,h2,_⟩
 ·rw[h1,<-hk,jI ho.keys he];show some ((aH TX.gs i s).ent)=some e;rw[h2];rfl
 ·rw[h2,Ei h1];rfl
theorem adf (key:Nat)(h:bM w nb F N)(ho:dY H N)(h64:H key<18446744073709551616)(hM:aN w P x)(hE:Env W0 E w)(hb0:W0.heap.size<=P.mb)(hF:P.mb∉F):
  Calls Tryz.prog 81 #[aK nb,aI (some ⟨P.mb,P.mo,none⟩) cP,nU key,.int .u64 (H key:Int)] w λe w'=>e= .returned (fP (look N.ents key))/\∃x',aN w' P x'/\dU x x' 128 0/\Mod [P.mb] w w':=by
 obtain⟨tX,gX,cnt,TX,W⟩:=vB cP key h ho h64 hM hE hb0 hF;have AZ:=XL ho W;have hmt:P.mb≠tX:=λe=>hF (e▸W.inT);have iC:P.mb≠gX:=λe=>hF (e▸W.Ml)
 have fin:∀w',Through (λV V'=>aN V' P (x.add cP cnt)/\Mod [P.mb] V V') w w'->∃x',aN w' P x'/\dU x x' 128 0/\Mod [P.mb] w w':=λw' ht=>by
  obtain⟨h1,h2⟩:=ht.o (by simpa using hM.lt) (λV' g hg hR hm=>hR.mod hm (by have:=hM.lt;simp;omega));exact⟨_,h1,(zh x cnt).mono W.KJ (zb _),h2⟩
 rcases W.call with⟨hb,hc⟩|⟨tb,db,hb,hS⟩
 ·refine(NH nb tX N.pfx N.au N.kind key (H key) P cP ((look N.ents key).getD ⟨0,0,0⟩) (look N.ents key).isSome [P.mb] (λV V'=>aN V' P (x.add cP cnt)/\Mod [P.mb] V V') w hb (by simpa using hM.lt) λV hV=> ?_).mono λe w' ⟨h1,h2⟩=>⟨h1,fin w' h2⟩;refine(UK tX gX TX P.mb P.mt P.pre P.post P.mo x.all x.last P.m cP key (H key) V (W.tab.below hV) W.tg.ok.pow h64 (hM.below hV) hmt iC (hE.next hV).tz (by have:=hE.OX;omega)).mono λe V' ⟨h1,h2,h3⟩=>⟨?_,h3, ?_,h3⟩
  ·rw[h1,AZ];rfl
  ·rw[hc];exact h2
 ·refine(KC nb tb db N.pfx N.au N.kind key (H key) P cP ((look N.ents key).getD ⟨0,0,0⟩) (look N.ents key).isSome [P.mb] (λV V'=>aN V' P (x.add cP cnt)/\Mod [P.mb] V V') w hb (by simpa using hM.lt) λV hV=> ?_).mono λe w' ⟨h1,h2⟩=>⟨h1,fin w' h2⟩;refine(Xk db tX gX cnt TX P x cP key (H key) V (hS.next hV) (W.tab.below hV) (hM.below hV).lt hmt iC).mono λe V' ⟨h1,h2,h3⟩=>⟨?_,h3,h2,h3⟩;rw[h1,AZ];rfl
theorem KQ (key:Nat)(h:bM w nb F N)(ho:dY H N)(h64:H key<18446744073709551616)(hM:aN w P x)(hE:Env W0 E w)(hb0:W0.heap.size<=P.mb)(hF:P.mb∉F)(hk:∀e∈N.ents,e.key≠key):
  Calls Tryz.prog 99 #[aK nb,aI (some ⟨P.mb,P.mo,none⟩) cP,nU key,.int .u64 (H key:Int)] w λe w'=>e= .returned (fP none)/\∃x',aN w' P x'/\dU x x' 128 0/\Mod [P.mb] w w':=by
 obtain⟨tX,gX,cnt,TX,W⟩:=vB cP key h ho h64 hM hE hb0 hF;have hmt:P.mb≠tX:=λe=>hF (e▸W.inT);have iC:P.mb≠gX:=λe=>hF (e▸W.Ml)
 have hsk:(aJ TX.gs key (H key)).1=none:=by
  rcases W.KL with⟨e,he,hk',_⟩|⟨_,_,h2,_⟩
  ·exact absurd hk' (hk e he)
  ·exact h2
 have fin:∀w',Through (λV V'=>aN V' P (x.add cP cnt)/\Mod [P.mb] V V') w w'->∃x',aN w' P x'/\dU x x' 128 0/\Mod [P.mb] w w':=λw' ht=>by
  obtain⟨h1,h2⟩:=ht.o (by simpa using hM.lt) (λV' g hg hR hm=>hR.mod hm (by have:=hM.lt;simp;omega));exact⟨_,h1,(zh x cnt).mono W.KJ (zb _),h2⟩
 rcases W.call with⟨hb,hc⟩|⟨tb,db,hb,hS⟩
 ·refine(zO nb tX N.pfx N.au N.kind key (H key) P cP ⟨0,0,0⟩ false [P.mb] (λV V'=>aN V' P (x.add cP cnt)/\Mod [P.mb] V V') w hb (by simpa using hM.lt) λV hV=> ?_).mono λe w' ⟨h1,h2⟩=>⟨h1,fin w' h2⟩;refine(FL tX gX TX P.mb P.mt P.pre P.post P.mo x.all x.last P.m cP key (H key) V (W.tab.below hV) W.tg.ok.pow h64 (hM.below hV) hmt iC (hE.next hV).tz (by have:=hE.OX;omega) hsk).mono λe V' ⟨h1,_,h2,h3⟩=>⟨h1,h3, ?_,h3⟩;rw[hc];exact h2
 ·refine(yV nb tb db N.pfx N.au N.kind key (H key) P cP ⟨0,0,0⟩ false [P.mb] (λV V'=>aN V' P (x.add cP cnt)/\Mod [P.mb] V V') w hb (by simpa using hM.lt) λV hV=> ?_).mono λe w' ⟨h1,h2⟩=>⟨h1,fin w' h2⟩;exact(G6 db tX gX cnt TX P x cP key (H key) V (hS.next hV) (W.tab.below hV) (hM.below hV).lt hmt iC hsk).mono λe V' ⟨h1,_,h2,h3⟩=>⟨h1,h3,h2,h3⟩
theorem XM (key:Nat)(h:bM w nb F N)(ho:dY H N)(h64:H key<18446744073709551616)(hM:aN w P x)(hE:Env W0 E w)(hb0:W0.heap.size<=P.mb)(hF:P.mb∉F)(e0:ay)(he0:e0∈N.ents)(hk:e0.key=key):
  Calls Tryz.prog 99 #[aK nb,aI (some ⟨P.mb,P.mo,none⟩) cP,nU key,.int .u64 (H key:Int)] w λe w'=>e= .returned (fP (some e0))/\∃x' N',bM w' nb F N'/\Wr H [e0] [] N N'/\aN w' P x'/\dU x x' 128 0/\Mod (P.mb::F) w w':=by
 obtain⟨tX,gX,cnt,TX,W⟩:=vB cP key h ho h64 hM hE hb0 hF;have hmt:P.mb≠tX:=λe=>hF (e▸W.inT);have iC:P.mb≠gX:=λe=>hF (e▸W.Ml)
 obtain⟨i,s,hs1,hs2⟩:∃i s,(aJ TX.gs key (H key)).1=some (i,s)/\aH TX.gs i s= .full e0:=by
  rcases W.KL with⟨e,he,hk',_,i,s,h1,h2⟩|⟨h1,_⟩
  ·have h3:=jI ho.keys he;have h4:=jI ho.keys he0;rw[hk']at h3;rw[hk,h3]at h4;cases h4;exact⟨i,s,h1,h2⟩
  ·exact absurd hk (h1 e0 he0)
 obtain⟨hch,_⟩:=Py W.tg hs2
 have hsub:∀k,k∈[P.mb,tX,gX]->k∈P.mb::F:=λk hk=>by
  simp at hk;rcases hk with rfl|rfl|rfl
  ·simp
  ·simp[W.inT]
  ·simp[W.Ml]
 have hlts:∀k∈[P.mb,tX,gX],k<w.heap.size:=λk hk=>by
  simp at hk;rcases hk with rfl|rfl|rfl
  ·exact hM.lt
  ·exact W.tab.aS
  ·exact W.tab.aT
 have fin:∀w',Through (λV V'=>(TabAt V' tX gX (jh TX i s)/\aN V' P (x.add cP cnt))/\Mod [P.mb,tX,gX] V V') w w'->∃x' N',bM w' nb F N'/\Wr H [e0] [] N N'/\aN w' P x'/\dU x x' 128 0/\Mod (P.mb::F) w w':=λw' ht=>by
  obtain⟨⟨h1,h3⟩,h2⟩:=ht.o hlts (λV' g hg hR hm=>⟨hR.1.mod hm (by have:=hlts tX (by simp);simp;omega) (by have:=hlts gX (by simp);simp;omega),hR.2.mod hm (by have:=hM.lt;simp;omega)⟩)
  obtain⟨N',n1,n2⟩:=W.swap w' _ [e0] [] _ h1 hch (aaM ho) (by simp) (by simp) h2 (λq hq dS=>by
   simp at dS;rcases dS with rfl|rfl|rfl
   ·exact absurd hq hF
   ·exact .inl rfl
   ·exact .inr rfl)
  exact⟨_,N',n1,n2,h3,(zh x cnt).mono W.KJ (zb _),h2.more hsub⟩
 rcases W.call with⟨hb,hc⟩|⟨tb,db,hb,hS⟩
 ·refine(zO nb tX N.pfx N.au N.kind key (H key) P cP e0 true [P.mb,tX,gX] (λV V'=>(TabAt V' tX gX (jh TX i s)/\aN V' P (x.add cP cnt))/\Mod [P.mb,tX,gX] V V') w hb hlts λV hV=> ?_).mono λe w' ⟨h1,h2⟩=>⟨h1,fin w' h2⟩;refine(D7 tX gX TX P.mb P.mt P.pre P.post P.mo x.all x.last P.m cP key (H key) V (W.tab.below hV) W.tg.ok.pow h64 (hM.below hV) hmt iC (hE.next hV).tz (by have:=hE.OX;omega) i s hs1 e0 hs2 W.tg.ok.small).mono λe V' ⟨h1,h4,h2,h3⟩=>⟨h1,h3,⟨h4, ?_⟩,h3⟩;rw[hc];exact h2
 ·refine(yV nb tb db N.pfx N.au N.kind key (H key) P cP e0 true [P.mb,tX,gX] (λV V'=>(TabAt V' tX gX (jh TX i s)/\aN V' P (x.add cP cnt))/\Mod [P.mb,tX,gX] V V') w hb hlts λV hV=> ?_).mono λe w' ⟨h1,h2⟩=>⟨h1,fin w' h2⟩;exact(FM db tX gX cnt TX P x cP key (H key) V (hS.next hV) (W.tab.below hV) (hM.below hV).lt hmt iC i s hs1 e0 hs2 W.tg.ok.small).mono λe V' ⟨h1,h4,h2,h3⟩=>⟨h1,h3,⟨h4,h2⟩,h3⟩
theorem Wr.world {del add:List ay}{X:aC}(_:aN w P x)(hF:P.mb∉F)(W:Whr w H nb F N P x cP key tX gX cnt TX)(h1:TabAt w' tX gX X)(hc:Cn del add TX X)(ha:vR H N del add)(hh:∀e∈add,e.hash=H key)(hd:del=[]->(aJ TX.gs key (H key)).1=none)(h2:Mod [P.mb,tX,gX] w w')(h3:aN w' P (x.add cP cnt)):
  ∃x' N',bM w' nb F N'/\Wr H del add N N'/\aN w' P x'/\dU x x' 128 0/\Mod (P.mb::F) w w':=by
 obtain⟨N',n1,n2⟩:=W.swap w' _ del add _ h1 hc ha hh hd h2 (λq hq dS=>by
  simp at dS;rcases dS with rfl|rfl|rfl
  ·exact absurd hq hF
  ·exact .inl rfl
  ·exact .inr rfl)
 exact⟨_,N',n1,n2,h3,(zh x cnt).mono W.KJ (zb _),h2.more λk hk=>by
  simp at hk;rcases hk with rfl|rfl|rfl
  ·simp
  ·simp[W.inT]
  ·simp[W.Ml]⟩
theorem Hu {w:World}(hV:Below w.heap.size w V)(h:Mod S V w'):Mod S w w':=(Mod.of_below hV S).then h
theorem Ep (e:ay)(more:Bool)(h:bM w nb F N)(ho:dY H N)(hh:e.hash=H e.key)(h64:e.hash<18446744073709551616)(hv:e.val<18446744073709551616)(hM:aN w P x)(hE:Env W0 E w)(hb0:W0.heap.size<=P.mb)(hF:P.mb∉F)(e0:ay)(he0:e0∈N.ents)(hk:e0.key=e.key):
  Calls Tryz.prog 94 #[aK nb,aI (some ⟨P.mb,P.mo,none⟩) cP,aP e,.bool more] w λy w'=>y= .returned (.tuple #[.bool false,.nilIface])/\∃x' N',bM w' nb F N'/\Wr H [e0] [{e0 with val:=e.val}] N N'/\aN w' P x'/\dU x x' 128 0/\Mod (P.mb::F) w w':=by
 obtain⟨tX,gX,cnt,TX,W⟩:=vB cP e.key h ho (hh▸h64) hM hE hb0 hF;have hmt:P.mb≠tX:=λe=>hF (e▸W.inT);have iC:P.mb≠gX:=λe=>hF (e▸W.Ml);have hmn:P.mb≠nb:=λe=>hF (e▸h.Og)
 obtain⟨i,s,hs1,hs2⟩:∃i s,(aJ TX.gs e.key (H e.key)).1=some (i,s)/\aH TX.gs i s= .full e0:=by
  rcases W.KL with⟨e1,he,hk',_,i,s,h1,h2⟩|⟨h1,_⟩
  ·have h3:=jI ho.keys he;have h4:=jI ho.keys he0;rw[hk']at h3;rw[hk,h3]at h4;cases h4;exact⟨i,s,h1,h2⟩
  ·exact absurd hk (h1 e0 he0)
 have hch:=U4 (v:=e.val) W.tg hs2
 have hh0:∀y∈[({e0 with val:=e.val}:ay)],y.hash=H e.key:=λy hy=>by
  simp at hy;subst hy;rw[<-hk];exact(ho.hash e0 he0).1.hash
 rw[<-hh]at hs1;rcases W.call with⟨hb,hc⟩|⟨tb,db,hb,hS⟩
 ·refine(KE nb tX gX N.pfx N.au N.kind TX P x cP e more w hb W.tab W.tg.ok.pow h64 hM hE hb0 hmt iC hmn W.ne.1 W.ne.2 i s hs1 e0 hs2).mono λy w' ⟨h1,h2,h3,h4⟩=>⟨h1,Wr.world hM hF W h2 hch (Mj ho he0 hv) hh0 (by simp) h4 (by rw[hc,<-hh];exact h3)⟩
 ·rw[<-hh]at hS;refine(xA nb tb db N.pfx N.au N.kind P cP e more false .nilIface (λV V'=>TabAt V' tX gX (replaceM TX i s e.val e0)/\aN V' P (x.add cP cnt)/\Mod [P.mb,tX,gX] V V') w hb λV hV=> ?_).mono λy w' ⟨h1,V,hV,h2,h3,h4⟩=>⟨h1,Wr.world hM hF W h2 hch (Mj ho he0 hv) hh0 (by simp) (Hu hV h4) h3⟩;exact KA db tX gX cnt TX P x cP e V (hS.next hV) (W.tab.below hV) (hM.below hV).lt hmt iC more i s hs1 e0 hs2
theorem Ve (e:ay)(h:bM w nb F N)(ho:dY H N)(he:kH H e)(ht:eu e.hash N.au=N.pfx)(hM:aN w P x)(hE:Env W0 E w)(hb0:W0.heap.size<=P.mb)(hF:P.mb∉F)(hk:∀y∈N.ents,y.key≠e.key)(hf:N.ents.length+1<=192)(hs:N.sl=0):
  Calls Tryz.prog 94 #[aK nb,aI (some ⟨P.mb,P.mo,none⟩) cP,aP e,.bool true] w λy w'=>y= .returned (.tuple #[.bool true,.nilIface])/\∃x' N',bM w' nb F N'/\Wr H [] [e] N N'/\aN w' P x'/\dU x x' 128 0/\Mod (P.mb::F) w w':=by
 obtain⟨tX,gX,cnt,TX,W⟩:=vB cP e.key h ho (he.hash▸he.h64) hM hE hb0 hF;have hmt:P.mb≠tX:=λe=>hF (e▸W.inT);have iC:P.mb≠gX:=λe=>hF (e▸W.Ml);have hmn:P.mb≠nb:=λe=>hF (e▸h.Og)
 obtain⟨Jq,hroom⟩:(∀y∈aM TX.gs,y.key≠e.key)/\load TX+1<=7*TX.gs.length:=by
  rcases W.KL with⟨e1,he1,hk',_⟩|⟨_,h2,_,h3⟩
  ·exact absurd hk' (hk e1 he1)
  ·exact⟨h2,h3 hs⟩
 obtain⟨hs1,i,s,hs2,hfr⟩:=S9 W.tg Jq (by omega);have hch:=Px W.tg hfr Jq;have hld:=W.tg.U3
 have hh0:∀y∈[e],y.hash=H e.key:=λy hy=>by simp at hy;subst hy;exact he.hash
 have hd:([]:List ay)=[]->(aJ TX.gs e.key (H e.key)).1=none:=λ_=>by rw[<-he.hash];exact hs1
 rcases W.call with⟨hb,hc⟩|⟨tb,db,hb,hS⟩
 ·refine(Pq nb tX gX N.pfx N.au N.kind TX P x cP e w hb W.tab W.tg.ok.pow he.h64 hM hE hb0 hmt iC hmn W.ne.1 W.ne.2 hs1 i s hs2 W.tg.ok.small (by omega)).mono λy w' ⟨h1,h2,h3,h4⟩=>⟨h1,Wr.world hM hF W h2 hch (Te ho he ht hk hf hs) hh0 hd h4 (by rw[hc,<-he.hash];exact h3)⟩
 ·rw[<-he.hash]at hS;refine(xA nb tb db N.pfx N.au N.kind P cP e true true .nilIface (λV V'=>TabAt V' tX gX (j4 TX i s e)/\aN V' P (x.add cP cnt)/\Mod [P.mb,tX,gX] V V') w hb λV hV=> ?_).mono λy w' ⟨h1,V,hV,h2,h3,h4⟩=>⟨h1,Wr.world hM hF W h2 hch (Te ho he ht hk hf hs) hh0 hd (Hu hV h4) h3⟩;exact Pd db tX gX cnt TX P x cP e V (hS.next hV) (W.tab.below hV) (hM.below hV).lt hmt iC W.tg.ok.pow he.h64 hs1 i s hs2 W.tg.ok.small (by omega)
theorem RO (e:ay)(h:bM w nb F N)(ho:dY H N)(hh:e.hash=H e.key)(h64:e.hash<18446744073709551616)(hM:aN w P x)(hE:Env W0 E w)(hb0:W0.heap.size<=P.mb)(hF:P.mb∉F)(hk:∀y∈N.ents,y.key≠e.key):
  Calls Tryz.prog 94 #[aK nb,aI (some ⟨P.mb,P.mo,none⟩) cP,aP e,.bool false] w λy w'=>y= .returned (.tuple #[.bool false,eT E 2])/\∃x',aN w' P x'/\dU x x' 128 0/\Mod [P.mb] w w':=by
 obtain⟨tX,gX,cnt,TX,W⟩:=vB cP e.key h ho (hh▸h64) hM hE hb0 hF;have hmt:P.mb≠tX:=λe=>hF (e▸W.inT);have iC:P.mb≠gX:=λe=>hF (e▸W.Ml);have hmn:P.mb≠nb:=λe=>hF (e▸h.Og)
 have hsk:(aJ TX.gs e.key e.hash).1=none:=by
  rcases W.KL with⟨e1,he1,hk',_⟩|⟨_,_,h2,_⟩
  ·exact absurd hk' (hk e1 he1)
  ·rw[hh];exact h2
 rcases W.call with⟨hb,hc⟩|⟨tb,db,hb,hS⟩
 ·exact(NI nb tX gX N.pfx N.au N.kind TX P x cP e w hb W.tab W.tg.ok.pow h64 hM hE hb0 hmt iC hmn W.ne.1 W.ne.2 hsk).mono λy w' ⟨h1,_,h3,h4⟩=>⟨h1,_,h3,(zh x _).mono (by rw[hh,<-hc];exact W.KJ) (zb _),h4⟩
 ·rw[<-hh]at hS;refine(xA nb tb db N.pfx N.au N.kind P cP e false false (eT E 2) (λV V'=>aN V' P (x.add cP cnt)/\Mod [P.mb] V V') w hb λV hV=> ?_).mono λy w' ⟨h1,V,hV,h3,h4⟩=>⟨h1,_,h3,(zh x _).mono W.KJ (zb _),Hu hV h4⟩;exact(Nz db tX gX cnt TX P x cP e V (hS.next hV) (W.tab.below hV) (hM.below hV).lt hmt iC (hE.next hV) hb0 hsk).mono λy V' ⟨h1,_,h3,h4⟩=>⟨h1,h3,h4⟩
end
