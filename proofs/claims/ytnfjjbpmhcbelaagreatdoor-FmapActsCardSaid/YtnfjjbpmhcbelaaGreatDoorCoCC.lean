/- A node's Find, Put, Delete, told of its entries. -/
import Derived.Test.YtnfjjbpmhcbelaaGreatDoorCoBH
import Derived.Test.YtnfjjbpmhcbelaaGreatDoorSqM
import Derived.Test.YtnfjjbpmhcbelaaGreatDoorGaugeA
import Derived.Test.YtnfjjbpmhcbelaaGreatDoorCoBU
namespace Go.Proofs.YtnfjjbpmhcbelaaGreatDoor
open Go.RowKit dI
variable {c l : bq} {cnt gX key p tX : Nat} {V w' : World} {TX : aC} {S : List Nat}
theorem Es (hp:c.p=(p:Int))(h:0≤l.p):∀n,0≤(eO l c n).p∧(eO l c n).p≤l.p+(p*n:Nat)
 |0=>⟨h,by show l.p≤_;omega⟩
 |n+1=>by
  obtain⟨h1,h2⟩:=Es hp h n;show 0≤sI _ _∧sI _ _≤_;rw[hp,Nat.mul_succ];unfold sI oI;generalize(eO l c n).p=a at*;generalize p*n=b at*;omega
theorem Et (hp:c.u=(p:Int))(h:0≤l.u):∀n,0≤(eO l c n).u∧(eO l c n).u≤l.u+(p*n:Nat)
 |0=>⟨h,by show l.u≤_;omega⟩
 |n+1=>by
  obtain⟨h1,h2⟩:=Et hp h n;show 0≤sI _ _∧sI _ _≤_;rw[hp,Nat.mul_succ];unfold sI oI;generalize(eO l c n).u=a at*;generalize p*n=b at*;omega
theorem yx (x:bL)(n:Nat):dL x (x.add cP n) n 0:=fun h1 h2=>by
 obtain⟨a,b⟩:=Es (c:=cP) (p:=1) rfl h1 n;obtain⟨c,d⟩:=Et (c:=cP) (p:=0) rfl h2 n;exact⟨a,by simpa[bL.add]using b,c,by simpa[bL.add]using d⟩
theorem OE (x:bL)(n:Nat):dL x (x.add cV n) 0 0:=fun h1 h2=>by
 obtain⟨a,b⟩:=Es (c:=cV) (p:=0) rfl h1 n;obtain⟨c,d⟩:=Et (c:=cV) (p:=0) rfl h2 n;exact⟨a,by simpa[bL.add]using b,c,by simpa[bL.add]using d⟩
theorem tH (x:bL)(k:Nat):dL x (x.add (cU (k:Int)) 1) 0 k:=fun h1 h2=>by
 obtain⟨a,b⟩:=Es (c:=cU (k:Int)) (p:=0) rfl h1 1;obtain⟨c,d⟩:=Et (c:=cU (k:Int)) (p:=k) rfl h2 1;exact⟨a,by simpa[bL.add]using b,c,by simpa[bL.add]using d⟩
theorem jq {w U:World}(h:Below w.heap.size w V)(k:Below V.heap.size V U):Below w.heap.size w U:=((Mod.of_below h []).trans (Mod.of_below k []) (by simp) (by simp)).Bf
theorem qE.next {w:World}{db hash:Nat}{P:MP}{x:bL}(h:qE w db P x c key hash tX gX TX cnt)(hV:Below w.heap.size w V):qE V db P x c key hash tX gX TX cnt:=fun U hU=>h U (jq hV hU)
theorem Through.out {w:World}{R:World→Prop}(h:Through (fun V V'=>R V'∧Mod S V V') w w')(_:∀k∈S,k<w.heap.size)(hR:∀(V':World) (g:Nat),w.heap.size≤g→R V'→Mod [g] V' w'→R w'):R w'∧Mod S w w':=by
 obtain⟨V,V',g,h1,⟨h2,h3⟩,h4,h5,h6⟩:=h;exact⟨hR V' g h4 h2 h6,((Mod.of_below h1 S).then h3).trans h6 (fun _ hh _=>hh) (fun q hq hl=>by simp at hq;omega)⟩
section
variable {W0 : World} {E : Nat → Addr} {H : Nat → Nat} {nb : Nat} {F : List Nat} {N : Nd} {P : MP} {x : bL} {w : World}
theorem Wh (ho:dU H N)(h:Whr w H nb F N P x c key tX gX cnt TX):iq TX.gs key (H key)=look N.ents key:=by
 unfold iq;rcases h.JE with⟨e,he,hk,hh,i,s,h1,h2⟩|⟨h1,_,h2,_⟩
 ·rw[h1,←hk,jc ho.keys he];show some ((aF TX.gs i s).ent)=some e;rw[h2];rfl
 ·rw[h2,Dz h1];rfl
theorem abr (key:Nat)(h:bJ w nb F N)(ho:dU H N)(h64:H key<18446744073709551616)(hM:aN w P x)(hE:Env W0 E w)(hb0:W0.heap.size≤P.mb)(hF:P.mb∉F):
  Calls Tryz.prog 86 #[aL nb,aG (some ⟨P.mb,P.mo,none⟩) cP,nU key,.int .u64 (H key:Int)] w fun e w'=>e= .returned (eX (look N.ents key))∧∃x',aN w' P x'∧dL x x' 128 0∧Mod [P.mb] w w':=by
 obtain⟨tX,gX,cnt,TX,W⟩:=uL cP key h ho h64 hM hE hb0 hF;have zX:=Wh ho W;have hmt:P.mb≠tX:=fun e=>hF (e▸W.inT);have gH:P.mb≠gX:=fun e=>hF (e▸W.KY)
 have fin:∀w',Through (fun V V'=>aN V' P (x.add cP cnt)∧Mod [P.mb] V V') w w'→∃x',aN w' P x'∧dL x x' 128 0∧Mod [P.mb] w w':=fun w' ht=>by
  obtain⟨h1,h2⟩:=ht.out (by simpa using hM.lt) (fun V' g hg hR hm=>hR.mod hm (by have:=hM.lt;simp;omega));exact⟨_,h1,(yx x cnt).mono W.JD (Nat.le_refl _),h2⟩
 rcases W.call with⟨hb,hc⟩|⟨tb,db,hb,hS⟩
 ·refine(LY nb tX N.pfx N.au N.kind key (H key) P cP ((look N.ents key).getD ⟨0,0,0⟩) (look N.ents key).isSome [P.mb] (fun V V'=>aN V' P (x.add cP cnt)∧Mod [P.mb] V V') w hb (by simpa using hM.lt) fun V hV=> ?_).mono fun e w' ⟨h1,h2⟩=>⟨h1,fin w' h2⟩;refine(SF tX gX TX P.mb P.mt P.pre P.post P.mo x.all x.last P.m cP key (H key) V (W.tab.below hV) W.tg.ok.pow h64 (hM.below hV) hmt gH (hE.next hV).tz (by have:=hE.NI;omega)).mono fun e V' ⟨h1,h2,h3⟩=>⟨?_,h3, ?_,h3⟩
  ·rw[h1,zX];rfl
  ·rw[hc];exact h2
 ·refine(Jv nb tb db N.pfx N.au N.kind key (H key) P cP ((look N.ents key).getD ⟨0,0,0⟩) (look N.ents key).isSome [P.mb] (fun V V'=>aN V' P (x.add cP cnt)∧Mod [P.mb] V V') w hb (by simpa using hM.lt) fun V hV=> ?_).mono fun e w' ⟨h1,h2⟩=>⟨h1,fin w' h2⟩;refine(VD db tX gX cnt TX P x cP key (H key) V (hS.next hV) (W.tab.below hV) (hM.below hV).lt hmt gH).mono fun e V' ⟨h1,h2,h3⟩=>⟨?_,h3,h2,h3⟩;rw[h1,zX];rfl
theorem JJ (key:Nat)(h:bJ w nb F N)(ho:dU H N)(h64:H key<18446744073709551616)(hM:aN w P x)(hE:Env W0 E w)(hb0:W0.heap.size≤P.mb)(hF:P.mb∉F)(hk:∀e∈N.ents,e.key≠key):
  Calls Tryz.prog 85 #[aL nb,aG (some ⟨P.mb,P.mo,none⟩) cP,nU key,.int .u64 (H key:Int)] w fun e w'=>e= .returned (eX none)∧∃x',aN w' P x'∧dL x x' 128 0∧Mod [P.mb] w w':=by
 obtain⟨tX,gX,cnt,TX,W⟩:=uL cP key h ho h64 hM hE hb0 hF;have hmt:P.mb≠tX:=fun e=>hF (e▸W.inT);have gH:P.mb≠gX:=fun e=>hF (e▸W.KY)
 have hsk:(aJ TX.gs key (H key)).1=none:=by
  rcases W.JE with⟨e,he,hk',_⟩|⟨_,_,h2,_⟩
  ·exact absurd hk' (hk e he)
  ·exact h2
 have fin:∀w',Through (fun V V'=>aN V' P (x.add cP cnt)∧Mod [P.mb] V V') w w'→∃x',aN w' P x'∧dL x x' 128 0∧Mod [P.mb] w w':=fun w' ht=>by
  obtain⟨h1,h2⟩:=ht.out (by simpa using hM.lt) (fun V' g hg hR hm=>hR.mod hm (by have:=hM.lt;simp;omega));exact⟨_,h1,(yx x cnt).mono W.JD (Nat.le_refl _),h2⟩
 rcases W.call with⟨hb,hc⟩|⟨tb,db,hb,hS⟩
 ·refine(y9 nb tX N.pfx N.au N.kind key (H key) P cP ⟨0,0,0⟩ false [P.mb] (fun V V'=>aN V' P (x.add cP cnt)∧Mod [P.mb] V V') w hb (by simpa using hM.lt) fun V hV=> ?_).mono fun e w' ⟨h1,h2⟩=>⟨h1,fin w' h2⟩;refine(ED tX gX TX P.mb P.mt P.pre P.post P.mo x.all x.last P.m cP key (H key) V (W.tab.below hV) W.tg.ok.pow h64 (hM.below hV) hmt gH (hE.next hV).tz (by have:=hE.NI;omega) hsk).mono fun e V' ⟨h1,_,h2,h3⟩=>⟨h1,h3, ?_,h3⟩;rw[hc];exact h2
 ·refine(yg nb tb db N.pfx N.au N.kind key (H key) P cP ⟨0,0,0⟩ false [P.mb] (fun V V'=>aN V' P (x.add cP cnt)∧Mod [P.mb] V V') w hb (by simpa using hM.lt) fun V hV=> ?_).mono fun e w' ⟨h1,h2⟩=>⟨h1,fin w' h2⟩;exact(Gh db tX gX cnt TX P x cP key (H key) V (hS.next hV) (W.tab.below hV) (hM.below hV).lt hmt gH hsk).mono fun e V' ⟨h1,_,h2,h3⟩=>⟨h1,h3,h2,h3⟩
theorem Wi (key:Nat)(h:bJ w nb F N)(ho:dU H N)(h64:H key<18446744073709551616)(hM:aN w P x)(hE:Env W0 E w)(hb0:W0.heap.size≤P.mb)(hF:P.mb∉F)(e0:av)(he0:e0∈N.ents)(hk:e0.key=key):
  Calls Tryz.prog 85 #[aL nb,aG (some ⟨P.mb,P.mo,none⟩) cP,nU key,.int .u64 (H key:Int)] w fun e w'=>e= .returned (eX (some e0))∧∃x' N',bJ w' nb F N'∧Wr H [e0] [] N N'∧aN w' P x'∧dL x x' 128 0∧Mod (P.mb::F) w w':=by
 obtain⟨tX,gX,cnt,TX,W⟩:=uL cP key h ho h64 hM hE hb0 hF;have hmt:P.mb≠tX:=fun e=>hF (e▸W.inT);have gH:P.mb≠gX:=fun e=>hF (e▸W.KY)
 obtain⟨i,s,hs1,hs2⟩:∃i s,(aJ TX.gs key (H key)).1=some (i,s)∧aF TX.gs i s= .full e0:=by
  rcases W.JE with⟨e,he,hk',_,i,s,h1,h2⟩|⟨h1,_⟩
  ·have h3:=jc ho.keys he;have h4:=jc ho.keys he0;rw[hk']at h3;rw[hk,h3]at h4;cases h4;exact⟨i,s,h1,h2⟩
  ·exact absurd hk (h1 e0 he0)
 obtain⟨hch,_⟩:=Og W.tg hs2
 have hsub:∀k,k∈[P.mb,tX,gX]→k∈P.mb::F:=fun k hk=>by
  simp at hk;rcases hk with rfl|rfl|rfl
  ·simp
  ·simp[W.inT]
  ·simp[W.KY]
 have hlts:∀k∈[P.mb,tX,gX],k<w.heap.size:=fun k hk=>by
  simp at hk;rcases hk with rfl|rfl|rfl
  ·exact hM.lt
  ·exact W.tab.aT
  ·exact W.tab.aU
 have fin:∀w',Through (fun V V'=>(TabAt V' tX gX (iM TX i s)∧aN V' P (x.add cP cnt))∧Mod [P.mb,tX,gX] V V') w w'→∃x' N',bJ w' nb F N'∧Wr H [e0] [] N N'∧aN w' P x'∧dL x x' 128 0∧Mod (P.mb::F) w w':=fun w' ht=>by
  obtain⟨⟨h1,h3⟩,h2⟩:=ht.out hlts (fun V' g hg hR hm=>⟨hR.1.mod hm (by have:=hlts tX (by simp);simp;omega) (by have:=hlts gX (by simp);simp;omega),hR.2.mod hm (by have:=hM.lt;simp;omega)⟩)
  obtain⟨N',n1,n2⟩:=W.swap w' _ [e0] [] _ h1 hch (Zc ho) (by simp) (by simp) h2 (fun q hq dK=>by
   simp at dK;rcases dK with rfl|rfl|rfl
   ·exact absurd hq hF
   ·exact .inl rfl
   ·exact .inr rfl)
  exact⟨_,N',n1,n2,h3,(yx x cnt).mono W.JD (Nat.le_refl _),h2.more hsub⟩
 rcases W.call with⟨hb,hc⟩|⟨tb,db,hb,hS⟩
 ·refine(y9 nb tX N.pfx N.au N.kind key (H key) P cP e0 true [P.mb,tX,gX] (fun V V'=>(TabAt V' tX gX (iM TX i s)∧aN V' P (x.add cP cnt))∧Mod [P.mb,tX,gX] V V') w hb hlts fun V hV=> ?_).mono fun e w' ⟨h1,h2⟩=>⟨h1,fin w' h2⟩;refine(Dm tX gX TX P.mb P.mt P.pre P.post P.mo x.all x.last P.m cP key (H key) V (W.tab.below hV) W.tg.ok.pow h64 (hM.below hV) hmt gH (hE.next hV).tz (by have:=hE.NI;omega) i s hs1 e0 hs2 W.tg.ok.small).mono fun e V' ⟨h1,h4,h2,h3⟩=>⟨h1,h3,⟨h4, ?_⟩,h3⟩;rw[hc];exact h2
 ·refine(yg nb tb db N.pfx N.au N.kind key (H key) P cP e0 true [P.mb,tX,gX] (fun V V'=>(TabAt V' tX gX (iM TX i s)∧aN V' P (x.add cP cnt))∧Mod [P.mb,tX,gX] V V') w hb hlts fun V hV=> ?_).mono fun e w' ⟨h1,h2⟩=>⟨h1,fin w' h2⟩;exact(EF db tX gX cnt TX P x cP key (H key) V (hS.next hV) (W.tab.below hV) (hM.below hV).lt hmt gH i s hs1 e0 hs2 W.tg.ok.small).mono fun e V' ⟨h1,h4,h2,h3⟩=>⟨h1,h3,⟨h4,h2⟩,h3⟩
theorem Wr.world {del add:List av}{X:aC}(_:aN w P x)(hF:P.mb∉F)(W:Whr w H nb F N P x cP key tX gX cnt TX)(h1:TabAt w' tX gX X)(hc:Bz del add TX X)(ha:uV H N del add)(hh:∀e∈add,e.hash=H key)(hd:del=[]→(aJ TX.gs key (H key)).1=none)(h2:Mod [P.mb,tX,gX] w w')(h3:aN w' P (x.add cP cnt)):
  ∃x' N',bJ w' nb F N'∧Wr H del add N N'∧aN w' P x'∧dL x x' 128 0∧Mod (P.mb::F) w w':=by
 obtain⟨N',n1,n2⟩:=W.swap w' _ del add _ h1 hc ha hh hd h2 (fun q hq dK=>by
  simp at dK;rcases dK with rfl|rfl|rfl
  ·exact absurd hq hF
  ·exact .inl rfl
  ·exact .inr rfl)
 exact⟨_,N',n1,n2,h3,(yx x cnt).mono W.JD (Nat.le_refl _),h2.more fun k hk=>by
  simp at hk;rcases hk with rfl|rfl|rfl
  ·simp
  ·simp[W.inT]
  ·simp[W.KY]⟩
theorem Gs {w:World}(hV:Below w.heap.size w V)(h:Mod S V w'):Mod S w w':=(Mod.of_below hV S).then h
theorem DL (e:av)(more:Bool)(h:bJ w nb F N)(ho:dU H N)(hh:e.hash=H e.key)(h64:e.hash<18446744073709551616)(hv:e.val<18446744073709551616)(hM:aN w P x)(hE:Env W0 E w)(hb0:W0.heap.size≤P.mb)(hF:P.mb∉F)(e0:av)(he0:e0∈N.ents)(hk:e0.key=e.key):
  Calls Tryz.prog 78 #[aL nb,aG (some ⟨P.mb,P.mo,none⟩) cP,aP e,.bool more] w fun y w'=>y= .returned (.tuple #[.bool false,.nilIface])∧∃x' N',bJ w' nb F N'∧Wr H [e0] [{e0 with val:=e.val}] N N'∧aN w' P x'∧dL x x' 128 0∧Mod (P.mb::F) w w':=by
 obtain⟨tX,gX,cnt,TX,W⟩:=uL cP e.key h ho (hh▸h64) hM hE hb0 hF;have hmt:P.mb≠tX:=fun e=>hF (e▸W.inT);have gH:P.mb≠gX:=fun e=>hF (e▸W.KY);have hmn:P.mb≠nb:=fun e=>hF (e▸h.Mx)
 obtain⟨i,s,hs1,hs2⟩:∃i s,(aJ TX.gs e.key (H e.key)).1=some (i,s)∧aF TX.gs i s= .full e0:=by
  rcases W.JE with⟨e1,he,hk',_,i,s,h1,h2⟩|⟨h1,_⟩
  ·have h3:=jc ho.keys he;have h4:=jc ho.keys he0;rw[hk']at h3;rw[hk,h3]at h4;cases h4;exact⟨i,s,h1,h2⟩
  ·exact absurd hk (h1 e0 he0)
 have hch:=Tf (v:=e.val) W.tg hs2
 have hh0:∀y∈[({e0 with val:=e.val}:av)],y.hash=H e.key:=fun y hy=>by
  simp at hy;subst hy;rw[←hk];exact(ho.hash e0 he0).1.hash
 rw[←hh]at hs1;rcases W.call with⟨hb,hc⟩|⟨tb,db,hb,hS⟩
 ·refine(Jy nb tX gX N.pfx N.au N.kind TX P x cP e more w hb W.tab W.tg.ok.pow h64 hM hE hb0 hmt gH hmn W.ne.1 W.ne.2 i s hs1 e0 hs2).mono fun y w' ⟨h1,h2,h3,h4⟩=>⟨h1,Wr.world hM hF W h2 hch (KW ho he0 hv) hh0 (by simp) h4 (by rw[hc,←hh];exact h3)⟩
 ·rw[←hh]at hS;refine(wD nb tb db N.pfx N.au N.kind P cP e more false .nilIface (fun V V'=>TabAt V' tX gX (replaceM TX i s e.val e0)∧aN V' P (x.add cP cnt)∧Mod [P.mb,tX,gX] V V') w hb fun V hV=> ?_).mono fun y w' ⟨h1,V,hV,h2,h3,h4⟩=>⟨h1,Wr.world hM hF W h2 hch (KW ho he0 hv) hh0 (by simp) (Gs hV h4) h3⟩;exact Ju db tX gX cnt TX P x cP e V (hS.next hV) (W.tab.below hV) (hM.below hV).lt hmt gH more i s hs1 e0 hs2
theorem Tt (e:av)(h:bJ w nb F N)(ho:dU H N)(he:mG H e)(ht:dQ e.hash N.au=N.pfx)(hM:aN w P x)(hE:Env W0 E w)(hb0:W0.heap.size≤P.mb)(hF:P.mb∉F)(hk:∀y∈N.ents,y.key≠e.key)(hf:N.ents.length+1≤192)(hs:N.sl=0):
  Calls Tryz.prog 78 #[aL nb,aG (some ⟨P.mb,P.mo,none⟩) cP,aP e,.bool true] w fun y w'=>y= .returned (.tuple #[.bool true,.nilIface])∧∃x' N',bJ w' nb F N'∧Wr H [] [e] N N'∧aN w' P x'∧dL x x' 128 0∧Mod (P.mb::F) w w':=by
 obtain⟨tX,gX,cnt,TX,W⟩:=uL cP e.key h ho (he.hash▸he.h64) hM hE hb0 hF;have hmt:P.mb≠tX:=fun e=>hF (e▸W.inT);have gH:P.mb≠gX:=fun e=>hF (e▸W.KY);have hmn:P.mb≠nb:=fun e=>hF (e▸h.Mx)
 obtain⟨Io,hroom⟩:(∀y∈aM TX.gs,y.key≠e.key)∧load TX+1≤7*TX.gs.length:=by
  rcases W.JE with⟨e1,he1,hk',_⟩|⟨_,h2,_,h3⟩
  ·exact absurd hk' (hk e1 he1)
  ·exact⟨h2,h3 hs⟩
 obtain⟨hs1,i,s,hs2,hfr⟩:=Q0 W.tg Io (by omega);have hch:=Oe W.tg hfr Io;have hld:=W.tg.Te
 have hh0:∀y∈[e],y.hash=H e.key:=fun y hy=>by simp at hy;subst hy;exact he.hash
 have hd:([]:List av)=[]→(aJ TX.gs e.key (H e.key)).1=none:=fun _=>by rw[←he.hash];exact hs1
 rcases W.call with⟨hb,hc⟩|⟨tb,db,hb,hS⟩
 ·refine(Ob nb tX gX N.pfx N.au N.kind TX P x cP e w hb W.tab W.tg.ok.pow he.h64 hM hE hb0 hmt gH hmn W.ne.1 W.ne.2 hs1 i s hs2 W.tg.ok.small (by omega)).mono fun y w' ⟨h1,h2,h3,h4⟩=>⟨h1,Wr.world hM hF W h2 hch (Q8 ho he ht hk hf hs) hh0 hd h4 (by rw[hc,←he.hash];exact h3)⟩
 ·rw[←he.hash]at hS;refine(wD nb tb db N.pfx N.au N.kind P cP e true true .nilIface (fun V V'=>TabAt V' tX gX (jC TX i s e)∧aN V' P (x.add cP cnt)∧Mod [P.mb,tX,gX] V V') w hb fun V hV=> ?_).mono fun y w' ⟨h1,V,hV,h2,h3,h4⟩=>⟨h1,Wr.world hM hF W h2 hch (Q8 ho he ht hk hf hs) hh0 hd (Gs hV h4) h3⟩;exact NV db tX gX cnt TX P x cP e V (hS.next hV) (W.tab.below hV) (hM.below hV).lt hmt gH W.tg.ok.pow he.h64 hs1 i s hs2 W.tg.ok.small (by omega)
theorem Qg (e:av)(h:bJ w nb F N)(ho:dU H N)(hh:e.hash=H e.key)(h64:e.hash<18446744073709551616)(hM:aN w P x)(hE:Env W0 E w)(hb0:W0.heap.size≤P.mb)(hF:P.mb∉F)(hk:∀y∈N.ents,y.key≠e.key):
  Calls Tryz.prog 78 #[aL nb,aG (some ⟨P.mb,P.mo,none⟩) cP,aP e,.bool false] w fun y w'=>y= .returned (.tuple #[.bool false,jf E 2])∧∃x',aN w' P x'∧dL x x' 128 0∧Mod [P.mb] w w':=by
 obtain⟨tX,gX,cnt,TX,W⟩:=uL cP e.key h ho (hh▸h64) hM hE hb0 hF;have hmt:P.mb≠tX:=fun e=>hF (e▸W.inT);have gH:P.mb≠gX:=fun e=>hF (e▸W.KY);have hmn:P.mb≠nb:=fun e=>hF (e▸h.Mx)
 have hsk:(aJ TX.gs e.key e.hash).1=none:=by
  rcases W.JE with⟨e1,he1,hk',_⟩|⟨_,_,h2,_⟩
  ·exact absurd hk' (hk e1 he1)
  ·rw[hh];exact h2
 rcases W.call with⟨hb,hc⟩|⟨tb,db,hb,hS⟩
 ·exact(LZ nb tX gX N.pfx N.au N.kind TX P x cP e w hb W.tab W.tg.ok.pow h64 hM hE hb0 hmt gH hmn W.ne.1 W.ne.2 hsk).mono fun y w' ⟨h1,_,h3,h4⟩=>⟨h1,_,h3,(yx x _).mono (by rw[hh,←hc];exact W.JD) (Nat.le_refl _),h4⟩
 ·rw[←hh]at hS;refine(wD nb tb db N.pfx N.au N.kind P cP e false false (jf E 2) (fun V V'=>aN V' P (x.add cP cnt)∧Mod [P.mb] V V') w hb fun V hV=> ?_).mono fun y w' ⟨h1,V,hV,h3,h4⟩=>⟨h1,_,h3,(yx x _).mono W.JD (Nat.le_refl _),Gs hV h4⟩;exact(LQ db tX gX cnt TX P x cP e V (hS.next hV) (W.tab.below hV) (hM.below hV).lt hmt gH (hE.next hV) hb0 hsk).mono fun y V' ⟨h1,_,h3,h4⟩=>⟨h1,h3,h4⟩
end
end Go.Proofs.YtnfjjbpmhcbelaaGreatDoor
