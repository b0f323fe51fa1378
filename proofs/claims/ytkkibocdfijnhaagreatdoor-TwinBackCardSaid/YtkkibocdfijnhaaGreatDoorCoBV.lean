/- A node's other operations, told of its entries and its job. -/
import Derived.Test.YtkkibocdfijnhaaGreatDoorCoCC
import Derived.Test.YtkkibocdfijnhaaGreatDoorLaneP
import Derived.Test.YtkkibocdfijnhaaGreatDoorCoBU
import Derived.Test.YtkkibocdfijnhaaGreatDoorSqM
namespace Go.Proofs.YtkkibocdfijnhaaGreatDoor
set_option maxRecDepth 100000
set_option maxHeartbeats 4000000
open Go.RowKit bV
section
variable {a b f : ay} {l' : List ay} {o : Option ay} {Ts : List aC}
def gL (f:ay)(l:List ay):Option ay→Prop
 |none=>∀e∈l,bM e f=true
 |some m=>m∈l∧bM m f=false∧∀e∈l,bM e f=false→bM e m=false
theorem Hu {c:ay}(h:bM a b=true)(k:bM b c=true):bM a c=true:=by
 simp[bM]at*;omega
theorem zk (a:ay):bM a a=false:=by simp[bM]
theorem NT {l:List ay}(h:gL f l o)(e:ay):gL f (l++[e]) (nu f o e):=by
 unfold nu
 cases hl:bM e f with
 |true=>
  simp only[Bool.not_true,Bool.false_and,Bool.false_eq_true,if_false]
  cases o with
  |none=>
   intro x hx;rcases List.mem_append.1 hx with h1|h1
   ·exact h x h1
   ·simp at h1;subst h1;exact hl
  |some m=>
   refine⟨List.mem_append_left _ h.1,h.2.1,fun x hx ko=> ?_⟩;rcases List.mem_append.1 hx with h1|h1
   ·exact h.2.2 x h1 ko
   ·simp at h1;subst h1;rw[hl]at ko;cases ko
 |false=>
  cases o with
  |none=>
   simp only[Bool.not_false,Bool.true_and,if_true];refine⟨by simp,hl,fun x hx ko=> ?_⟩;rcases List.mem_append.1 hx with h1|h1
   ·rw[h x h1]at ko;cases ko
   ·simp at h1;subst h1;exact zk _
  |some m=>
   simp only[Bool.not_false,Bool.true_and]
   cases hm:bM e m with
   |true=>
    rw[if_pos rfl];refine⟨by simp,hl,fun x hx ko=> ?_⟩;rcases List.mem_append.1 hx with h1|h1
    ·cases hxe:bM x e with
     |false=>rfl
     |true=>have:=h.2.2 x h1 ko;rw[Hu hxe hm]at this;cases this
    ·simp at h1;subst h1;exact zk _
   |false=>
    rw[if_neg (by simp)];refine⟨List.mem_append_left _ h.1,h.2.1,fun x hx ko=> ?_⟩;rcases List.mem_append.1 hx with h1|h1
    ·exact h.2.2 x h1 ko
    ·simp at h1;subst h1;exact hm
theorem CW (f:ay):∀(es l:List ay) (o:Option ay),gL f l o→gL f (l++es) (dU f o es)
 | [],l,o,h=>by simpa[dU]using h
 |e::es,l,o,h=>by
  have:=CW f es (l++[e]) _ (NT h e);simpa[dU]using this
theorem KF (f:ay)(es:List ay):gL f es (dU f none es):=by
 have:=CW f es [] none (by intro e he;cases he);simpa using this
theorem Lu {l:List ay}{o':Option ay}(h:gL f l o)(h':gL f l' o'):gL f (l++l') (rO o o'):=by
 unfold rO
 cases o' with
 |none=>
  cases o with
  |none=>
   intro x hx;rcases List.mem_append.1 hx with h1|h1
   ·exact h x h1
   ·exact h' x h1
  |some m=>
   refine⟨List.mem_append_left _ h.1,h.2.1,fun x hx ko=> ?_⟩;rcases List.mem_append.1 hx with h1|h1
   ·exact h.2.2 x h1 ko
   ·rw[h' x h1]at ko;cases ko
 |some e=>
  cases o with
  |none=>
   refine⟨List.mem_append_right _ h'.1,h'.2.1,fun x hx ko=> ?_⟩;rcases List.mem_append.1 hx with h1|h1
   ·rw[h x h1]at ko;cases ko
   ·exact h'.2.2 x h1 ko
  |some m=>
   simp only
   cases hm:bM e m with
   |true=>
    rw[if_pos rfl];refine⟨List.mem_append_right _ h'.1,h'.2.1,fun x hx ko=> ?_⟩;rcases List.mem_append.1 hx with h1|h1
    ·cases hxe:bM x e with
     |false=>rfl
     |true=>have:=h.2.2 x h1 ko;rw[Hu hxe hm]at this;cases this
    ·exact h'.2.2 x h1 ko
   |false=>
    rw[if_neg (by simp)];refine⟨List.mem_append_left _ h.1,h.2.1,fun x hx ko=> ?_⟩;rcases List.mem_append.1 hx with h1|h1
    ·exact h.2.2 x h1 ko
    ·cases hxm:bM x m with
     |false=>rfl
     |true=>
      have h2:=h'.2.2 x h1 ko
      have:bM e m=true:=by
       simp[bM]at*;omega
      rw[hm]at this;cases this
theorem BK (f:ay):∀(Ts:List aC) (l:List ay) (o:Option ay),gL f l o→gL f (l++dA Ts) (Ts.foldl (fun o T=>rO o (dU f none (aM T.gs))) o)
 | [],l,o,h=>by simpa[dA]using h
 |T::Ts,l,o,h=>by
  have:=BK f Ts (l++aM T.gs) _ (Lu h (KF f (aM T.gs)));simpa[dA]using this
theorem Hw (f:ay)(Ts:List aC):gL f (dA Ts) (gK f Ts):=by
 have:=BK f Ts [] none (by intro e he;cases he);simpa[gK]using this
theorem iB.snoc {w:World}{bs:List (Nat×Nat)}{ob og:Nat}{T:aC}(h:iB w bs Ts)(hT:TabAt w ob og T)(h1:ob∉gD bs)(h2:og∉gD bs):iB w (bs++[(ob,og)]) (Ts++[T]):=by
 have hcase:∀(i:Nat) (b:Nat×Nat),(bs++[(ob,og)])[i]?=some b→bs[i]?=some b∨(i=bs.length∧b=(ob,og)):=fun i b hb=>by
  by_cases hi:i<bs.length
  ·rw[List.getElem?_append_left hi]at hb;exact .inl hb
  ·rw[List.getElem?_append_right (by omega)]at hb
   have h0:i-bs.length=0:=by
    have:=(List.getElem?_eq_some_iff.1 hb).1;simp at this;omega
   rw[h0]at hb;simp at hb;exact .inr ⟨by omega,hb.symm⟩
 refine⟨by simp[h.len],fun i b X hb hX=> ?_,fun i j b c hb hc hij=> ?_⟩
 ·rcases hcase i b hb with h3|⟨rfl,rfl⟩
  ·rw[List.getElem?_append_left (by rw[←h.len];exact(List.getElem?_eq_some_iff.1 h3).1)]at hX;exact h.at_ i b X h3 hX
  ·rw[h.len,List.getElem?_append_right (Nat.le_refl _),Nat.sub_self]at hX;cases hX;exact hT
 ·have hf:∀b∈bs,b.1≠ob∧b.1≠og∧b.2≠ob∧b.2≠og:=fun b hb=>
   ⟨fun e=>h1 (e▸dQ.2 ⟨b,hb,.inl rfl⟩),fun e=>h2 (e▸dQ.2 ⟨b,hb,.inl rfl⟩),fun e=>h1 (e▸dQ.2 ⟨b,hb,.inr rfl⟩),fun e=>h2 (e▸dQ.2 ⟨b,hb,.inr rfl⟩)⟩
  rcases hcase i b hb with h3|⟨rfl,rfl⟩<;>rcases hcase j c hc with h4|⟨rfl,rfl⟩
  ·exact h.ne i j b c h3 h4 hij
  ·exact hf b (List.mem_of_getElem? h3)
  ·obtain⟨a1,a2,a3,a4⟩:=hf c (List.mem_of_getElem? h4);exact⟨a1.symm,a3.symm,a2.symm,a4.symm⟩
  ·exact absurd rfl hij
theorem ab3 (d d' h:Nat):dG 1 d h=dG 1 d' h:=by unfold dG;rw[if_pos rfl,if_pos rfl]
theorem Yh (d d':Nat):tV 1 d=tV 1 d':=by funext st e;unfold tV;rw[ab3 d d']
theorem Z8 (d d':Nat):∀(es:List ay) (Ts:List aC),Fits 1 d Ts es→Fits 1 d' Ts es
 | [],_,_=>trivial
 |e::es,Ts,h=>by
  unfold Fits at h⊢;rw[ab3 d' d];exact⟨h.1,Z8 d d' es _ h.2⟩
theorem Yi {N:Nd}{es:List ay}(h:Fits N.many N.au Ts es):Fits N.many N.dep Ts es:=by
 unfold Nd.dep;split
 ·next h1=>rw[h1]at h⊢;exact Z8 _ _ _ _ h
 ·exact h
theorem Va (N:Nd)(st:bP×List aC)(es:List ay):eP N.many N.dep st es=eP N.many N.au st es:=by
 unfold Nd.dep;split
 ·next h1=>rw[h1];unfold eP;rw[Yh]
 ·rfl
section
variable {W0 : World} {E : Nat → Addr} {H : Nat → Nat} {nb : Nat} {F : List Nat} {N : Nd} {P : MP} {x : bP} {w : World}
theorem ab4 (h:bK w nb F N):∃tb dv,aj w nb 162 (kT N tb dv):=by
 unfold bK at h;split at h
 ·obtain⟨tb,gb,h1,_⟩:=h;exact⟨_,_,h1⟩
 ·obtain⟨db,rb,cap,ob,og,bl,h1,_⟩:=h;exact⟨_,_,h1⟩
 ·obtain⟨db,rb,cap,ob,og,fb,cu,eb,vb,cO,bA,bs,h1,_⟩:=h;exact⟨_,_,h1⟩
theorem KG (h:bK w nb F N):Calls Tryz.prog 171 #[aK nb] w fun e w'=>e= .returned (.tuple #[nI N.pfx,nI N.au])∧w.drew=w':=by
 obtain⟨tb,dv,hb⟩:=ab4 h;exact Pn nb tb N.pfx N.au N.kind dv w hb
theorem aa2 (h:bK w nb F N)(ho:dV H N):Calls Tryz.prog 275 #[aK nb] w fun e w'=>e= .returned (nI N.left)∧Below w.heap.size w w':=by
 have hl:=ho.pw.le;have bS:=ho.ph;unfold kJ at bS;unfold bK at h;unfold Nd.left
 cases hp:N.ph with
 |idle=>
  rw[hp]at h;obtain⟨tb,gb,h1,_⟩:=h;exact(Ll nb tb N.pfx N.au N.kind w h1).mono fun e w' ⟨a,b⟩=>⟨a,b▸Below.refl _ _⟩
 |mO k=>
  rw[hp]at h;obtain⟨db,rb,cap,ob,og,bl,h1,h2,h3,_⟩:=h;have:=La db rb cap ob og bl N.T N.each N.dep k w h2 hl;rw[h3]at this;exact zS nb ob db N.pfx N.au N.kind _ (fun V V'=>Below V.heap.size V V') w h1 this
 |iV Ts next=>
  rw[hp]at h bS;obtain⟨db,rb,cap,ob,og,fb,cu,eb,vb,cO,bA,bs,h1,h2,h3,_⟩:=h
  have:=qj db rb cap ob og fb cu eb vb cO bA bs N.T Ts N.each N.dep next w h2 hl bS.2.1
  exact(zS nb ob db N.pfx N.au N.kind _ (fun V V'=>V.drew=V') w h1 this).mono fun e w' ⟨a,b⟩=>⟨a,b▸(Below.refl _ _).drew⟩
theorem Vb (h:bK w nb F N)(ho:dV H N):Calls Tryz.prog 89 #[aK nb] w fun e w'=>e= .returned (nI N.groups)∧w=w':=by
 have hl:=ho.pw.le;have bS:=ho.ph;unfold kJ at bS;unfold bK at h;unfold Nd.groups
 cases hp:N.ph with
 |idle=>
  rw[hp]at h;obtain⟨tb,gb,h1,h2,_⟩:=h;exact G8 nb tb gb N.pfx N.au N.kind N.T w h1 h2
 |mO k=>
  rw[hp]at h bS;obtain⟨db,rb,cap,ob,og,bl,h1,h2,h3,_⟩:=h;obtain⟨k1,k2,_⟩:=fT ho.pw bS.1
  have:=EB db rb cap ob og (bl.map fun b=>b.1) N.T N.each (nI N.dep) (.slice none 0 0) (.pointer none) (.bool false) k1.le (by rw[List.length_map];omega) hl w (by rw[List.length_map];exact h2.blk) h2.row (fun b hb=>by
   obtain⟨c,hc,rfl⟩:=List.mem_map.1 hb;obtain⟨i,hi⟩:=List.getElem?_of_mem hc
   exact⟨_,_,(h2.nZ i c hi).blk⟩) h2.tab
  rw[List.length_map,h3]at this;exact xJ nb ob db N.pfx N.au N.kind _ (fun V V'=>V=V') w h1 this
 |iV Ts next=>
  rw[hp]at h bS;obtain⟨db,rb,cap,ob,og,fb,cu,eb,vb,cO,bA,bs,h1,h2,h3,_⟩:=h;obtain⟨k1,k2,_⟩:=fT ho.pw bS.1;have:=EB db rb cap ob og bA N.T N.each (nI N.dep) (.slice (some ⟨fb,0,none⟩) bs.length cu) (pQ eb) (.bool false) k1.le (by rw[h2.eq,h3];omega) hl w h2.blk h2.row (fun b hb=>⟨_,_,h2.nZ b hb⟩) h2.tab;rw[h2.eq,h3]at this;exact xJ nb ob db N.pfx N.au N.kind _ (fun V V'=>V=V') w h1 this
theorem Lv (gl:Nat)(h:bK w nb F N)(hb:N.ph.busy=true):Calls Tryz.prog 113 #[aK nb,nI gl] w fun e w'=>e= .returned (.tuple #[.int .i64 0,.bool false])∧Below w.heap.size w w':=by
 unfold bK at h
 cases hp:N.ph with
 |idle=>rw[hp]at hb;cases hb
 |mO k=>
  rw[hp]at h;obtain⟨db,rb,cap,ob,og,bl,h1,_⟩:=h;exact(yL nb ob db N.pfx N.au N.kind gl w h1).mono fun e w' ⟨a,b⟩=>⟨a,b▸Below.refl _ _⟩
 |iV Ts next=>
  rw[hp]at h;obtain⟨db,rb,cap,ob,og,fb,cu,eb,vb,cO,bA,bs,h1,_⟩:=h;exact(yL nb ob db N.pfx N.au N.kind gl w h1).mono fun e w' ⟨a,b⟩=>⟨a,b▸Below.refl _ _⟩
theorem Lx (gl:Nat)(h:bK w nb F N)(ho:dV H N)(hi:N.ph= .idle):Calls Tryz.prog 113 #[aK nb,nI gl] w fun e w'=>e= .returned (.tuple #[.int .i64 ((jo N.T.live N.T.cK N.len N.au gl:Nat):Int),.bool (fA N.T.live N.T.cK N.len N.au gl)])∧Below w.heap.size w w':=by
 unfold bK at h;rw[hi]at h;obtain⟨tb,gb,h1,h2,_⟩:=h;exact Ja nb tb gb N.au gl N.pfx N.kind N.T w h1 h2 ho.tg.ok
theorem Yj (gl kind:Nat)(hgl:gl≤5)(h:bK w nb F N)(ho:dV H N)(hi:N.ph= .idle)(hk:jo N.T.live N.T.cK N.len N.au gl=kind)(h0:kind≠0):Calls Tryz.prog 115 #[aK nb,nI kind] w fun e w'=>e= .returned .nilIface∧∃F',bK w' nb F' (N.start kind)∧(∀q∈F',q∈F∨w.heap.size≤q)∧Mod [nb] w w':=by
 obtain⟨hs,_⟩:=Ny ho hi hgl hk h0;have bS:=hs.ph;have hK:jX (N.start kind):=bS.1;obtain⟨k1,k2,k3,k4,k5⟩:=fT (N:=N.start kind) ho.pw hK;have hd:=ho.deep
 have hd':N.au<5∨(N.start kind).many=1∧N.au≤5:=by
  rcases hK with h1|h1|h1
  ·exact .inr ⟨by unfold Nd.many;rw[h1];rfl,hd⟩
  ·exact .inr ⟨by unfold Nd.many;rw[h1.1];rfl,hd⟩
  ·exact .inl h1.2.2
 unfold bK at h;rw[hi]at h;obtain⟨tb,gb,h1,h2,rfl,h3,h4⟩:=h;refine(RX nb tb gb kind (N.start kind).each (N.start kind).many N.au N.pfx N.kind N.T hd' w h1 h2 ho.tg.ok k1 k5 h3 h4).mono ?_;rintro e w' ⟨rfl,db,hb,⟨rb,cap,bl,l1,l2,l3,l4,pY⟩,hm⟩;have hnl:=h1.lt;refine⟨rfl,nb::bI db rb tb gb bl, ?_,fun q hq=> ?_,hm⟩
 ·unfold bK;show∃db rb cap ob og bl,_;refine⟨db,rb,cap,tb,gb,bl,hb,pY,l4,rfl,fun hh=> ?_⟩;simp only[bI,List.mem_cons]at hh;rcases hh with e|e|e|e|e
  ·omega
  ·omega
  ·exact h3 e
  ·exact h4 e
  ·have:=l3 nb e;omega
 ·simp only[bI,List.mem_cons]at hq;rcases hq with e|e|e|e|e|e
  ·exact .inl (by simp[e])
  ·exact .inr (by omega)
  ·exact .inr (by omega)
  ·exact .inl (by simp[e])
  ·exact .inl (by simp[e])
  ·exact .inr (l3 q e)
theorem Yk (key hash:Nat)(h:bK w nb F N)(ho:dV H N)(hM:aN w P x)(hE:Env W0 E w)(hb0:W0.heap.size≤P.mb)(hF:P.mb∉F):
  Calls Tryz.prog 176 #[aK nb,aI (some ⟨P.mb,P.mo,none⟩) cP,nU hash,nU key] w fun e w'=>∃o x',e= .returned (fE o)∧gL ⟨key,0,hash⟩ N.ents o∧aN w' P x'∧dO x x' 192 0∧Mod [P.mb] w w':=by
 have hl:=ho.pw.le;have bS:=ho.ph;unfold kJ at bS;unfold bK at h
 have fin:∀(w':World) (n:Nat),Through (fun V V'=>aN V' P (x.add cP n)∧Mod [P.mb] V V') w w'→n≤192→∃x',aN w' P x'∧dO x x' 192 0∧Mod [P.mb] w w':=fun w' n ht hn=>by
  obtain⟨h1,h2⟩:=ht.out (by simpa using hM.lt) (fun V' g hg hR hm=>hR.mod hm (by have:=hM.lt;simp;omega));exact⟨_,h1,(xQ x n).mono hn (Nat.le_refl _),h2⟩
 cases hp:N.ph with
 |idle=>
  rw[hp]at h;obtain⟨tb,gb,h1,h2,rfl,h3,h4⟩:=h
  have hE':N.ents=aM N.T.gs:=by unfold Nd.ents;rw[hp];rfl
  refine(I7 nb tb N.pfx N.au N.kind hash key P cP ((dU ⟨key,0,hash⟩ none (aM N.T.gs)).getD ⟨0,0,0⟩) (dU ⟨key,0,hash⟩ none (aM N.T.gs)).isSome [P.mb] (fun V V'=>aN V' P (x.add cP N.T.gs.length)∧Mod [P.mb] V V') w h1 (by simpa using hM.lt) fun V hV=> ?_).mono fun e w' ⟨a,b⟩=> ?_
  ·exact(Ey tb gb N.T P x cP hash key hl V (h2.below hV) (hM.below hV) (hE.next hV) (fun e=>hF (by simp[e])) (fun e=>hF (by simp[e])) hb0).mono fun e V' ⟨a,b,c⟩=>⟨a,c,b,c⟩
  ·obtain⟨x',c,d⟩:=fin w' _ b (by unfold Nd.len at hl;omega);exact⟨_,x',a,by rw[hE'];exact KF _ _,c,d⟩
 |mO k=>
  rw[hp]at h;obtain⟨db,rb,cap,ob,og,bl,h1,h2,h3,rfl,h4⟩:=h
  have hE':N.ents=dA [N.T]:=by unfold Nd.ents;rw[hp];simp[zV,dA]
  have l7:P.mb≠ob:=fun e=>hF (by simp[bI,e]);have hog:P.mb≠og:=fun e=>hF (by simp[bI,e]);refine(yK nb ob db N.pfx N.au N.kind hash key P cP ((gK ⟨key,0,hash⟩ [N.T]).getD ⟨0,0,0⟩) (gK ⟨key,0,hash⟩ [N.T]).isSome [P.mb] (fun V V'=>aN V' P (x.add cP (rP [N.T]))∧Mod [P.mb] V V') w h1 (by simpa using hM.lt) fun V hV=> ?_).mono fun e w' ⟨a,b⟩=> ?_
  ·have h2':=h2.mod (Mod.of_below hV []) (by simp)
   have hts:iB V [(ob,og)] [N.T]:=by
    have:=(iB.mk (w:=V) (bs:=[]) (Ts:=[]) rfl (fun j b T hb=>by simp at hb) (fun i j b c hb=>by simp at hb)).snoc h2'.tab (by simp[gD]) (by simp[gD]);simpa using this
   exact(GZ db ob 0 none [] (by simp) _ _ _ _ [(ob,og)] [N.T] P x cP hash key V h2'.blk ⟨by simp[ptrs],fun hh=>by simp at hh⟩ rfl hts (fun T hT=>by simp at hT;subst hT;exact hl) (hM.below hV) (hE.next hV) hb0 (fun b hb=>by simp at hb;subst hb;exact⟨l7,hog⟩)).mono fun e V' ⟨a,b,c⟩=>⟨a,c,b,c⟩
  ·obtain⟨x',c,d⟩:=fin w' _ b (by unfold rP;unfold Nd.len at hl;simp;omega);exact⟨_,x',a,by rw[hE'];exact Hw _ _,c,d⟩
 |iV Ts next=>
  rw[hp]at h bS;obtain⟨db,rb,cap,ob,og,fb,cu,eb,vb,cO,bA,bs,h1,h2,h3,rfl,h4⟩:=h;obtain⟨g1,g2,g3,g4,g5⟩:=bS;obtain⟨k1,k2,k3,k4,_⟩:=fT ho.pw g1
  have hE':N.ents=dA (Ts++[N.T]):=by unfold Nd.ents;rw[hp];simp[zV,dA]
  have hg:∀T∈Ts++[N.T],T.gs.length≤64:=fun T hT=>by
   rcases List.mem_append.1 hT with h5|h5
   ·obtain⟨j,hj⟩:=List.getElem?_of_mem h5;rw[(g3.tg j T hj).2];exact k1.le
   ·simp at h5;subst h5;exact hl
  have hsum:∀l:List aC,(∀T∈l,T.gs.length≤64)→rP l≤64*l.length:=fun l=>by
   induction l with
   |nil=>intro _;simp[rP]
   |cons T l ih=>
    intro hh;have h6:=ih (fun X hX=>hh X (by simp[hX]));have h7:=hh T (by simp);unfold rP at h6⊢;simp only[List.map_cons,List.sum_cons,List.length_cons];omega
  have hs:=hsum _ hg;have hlen:=g3.len;rw[List.length_append,List.length_singleton,hlen]at hs;refine(yK nb ob db N.pfx N.au N.kind hash key P cP ((gK ⟨key,0,hash⟩ (Ts++[N.T])).getD ⟨0,0,0⟩) (gK ⟨key,0,hash⟩ (Ts++[N.T])).isSome [P.mb] (fun V V'=>aN V' P (x.add cP (rP (Ts++[N.T])))∧Mod [P.mb] V V') w h1 (by simpa using hM.lt) fun V hV=> ?_).mono fun e w' ⟨a,b⟩=> ?_
  ·have h2':=h2.mod (Mod.of_below hV []) (by simp);have hnd:=h2.nd;unfold aW at hnd;simp only[List.nodup_cons,List.mem_cons,List.mem_append,not_or]at hnd;obtain⟨_,_,_,_,_,⟨_,_,f8⟩,⟨_,g8⟩,_⟩:=hnd;have hts:=h2'.tabs.snoc h2'.tab f8 g8
   exact(GZ db ob cu (some ⟨fb,0,none⟩) (bs.map Prod.fst) (by rw[List.length_map];omega) _ _ _ _ (bs++[(ob,og)]) (Ts++[N.T]) P x cP hash key V (by rw[List.length_map];exact h2'.blk) (fD.reads h2'.fresh) (by simp) hts hg (hM.below hV) (hE.next hV) hb0 (fun b hb=>by
    rcases List.mem_append.1 hb with h5|h5
    ·obtain⟨m1,m2⟩:=iD (db:=db) (rb:=rb) (fb:=fb) (eb:=eb) (vb:=vb) (ob:=ob) (og:=og) (bA:=bA) h5;exact⟨fun e=>hF (by rw[e];simp[m1]),fun e=>hF (by rw[e];simp[m2])⟩
    ·simp at h5;subst h5
     exact⟨fun e=>hF (by simp[aW,e]),fun e=>hF (by simp[aW,e])⟩)).mono fun e V' ⟨a,b,c⟩=>⟨a,c,b,c⟩
  ·obtain⟨x',c,d⟩:=fin w' _ b (by omega);exact⟨_,x',a,by rw[hE'];exact Hw _ _,c,d⟩
theorem Qy {α:Type}{l:List α}(h:l.length=2):∃a b,l=[a,b]:=by
 match l,h with
 | [a,b],_=>exact⟨a,b,rfl⟩
theorem CX {nb tb db:Nat}{pfx au job:Int}{R:World→Prop}(h:aj w nb 162 #[.int .i64 pfx,.int .i64 au,pQ tb,.int .i64 job,pQ db])(hc:Calls Tryz.prog 277 #[bO db,.pointer (some ⟨P.mb,P.mo,none⟩)] w fun e w'=>e= .returned (.bool true)∧R w'):
  Calls Tryz.prog 276 #[aK nb,.pointer (some ⟨P.mb,P.mo,none⟩)] w fun e w'=>e= .returned (.bool true)∧R w':=I9 nb tb db pfx au job P (fun _ V'=>R V') w h hc
theorem aa3 (h:bK w nb F N)(ho:dV H N)(hl:1≤N.left)(hM:aN w P x)(hE:Env W0 E w)(hb0:W0.heap.size≤P.mb)(hF:P.mb∉F)(ZR:∀q∈F,W0.heap.size≤q):
  Calls Tryz.prog 276 #[aK nb,mU P] w fun e w'=>e= .returned (.bool true)∧∃F' x',bK w' nb F' N.step∧(∀q∈F',q∈F∨w.heap.size≤q)∧aN w' P x'∧dO x x' 0 1∧Mod (P.mb::F) w w':=by
 have hL:=qP N
 have RV:N.step.dep=N.dep:=by unfold Nd.dep;rw[hL.many,hL.au]
 have hcells:∀tb dv,kT N.step tb dv=kT N tb dv:=fun tb dv=>by unfold kT;rw[hL.pfx,hL.au,hL.kind]
 have bS:=ho.ph;unfold kJ at bS;unfold bK at h
 cases hp:N.ph with
 |idle=>unfold Nd.left at hl;rw[hp]at hl;simp at hl
 |mO k=>
  rw[hp]at h bS;obtain⟨db,rb,cap,ob,og,bl,h1,h2,h3,rfl,h4⟩:=h;simp only[List.mem_cons,not_or]at hF;have hst:=Lf db rb cap ob og bl N.T N.each N.dep k P x w h2 hM hE hF.2 hb0 (fun q hq=>ZR q (by simp[hq]));refine(CX h1 hst).mono ?_;rintro e w' ⟨rfl,hM',hm,hif⟩;have LZ:dO x ((x.add cV 1).add (cU 1) 1) 0 1:=(NS x 1).trans (rZ _ 1)
  have hnb:nb∉P.mb::bI db rb ob og bl:=by simp only[List.mem_cons,not_or];exact⟨fun e=>hF.1 e.symm,h4⟩
  have hblk:=h1.mod hm hnb
  have hmod:Mod (P.mb::nb::bI db rb ob og bl) w w':=hm.more (fun q hq=>by
   rcases List.mem_cons.1 hq with e|e
   ·simp[e]
   ·simp[e])
  by_cases hk:k+1=N.each*N.many
  ·have hP:N.step.ph= .iV (List.replicate N.many (dX N.each N.each)) 0:=by unfold Nd.step;rw[hp];simp only;rw[if_pos hk]
   have hT:N.step.T=N.T:=by unfold Nd.step;rw[hp]
   rw[if_pos (by rw[h3];exact hk)]at hif;obtain⟨fb,cu,eb,vb,cO,pY,l1,l2,l3⟩:=hif;have hnl:=h1.lt
   have hin:∀q,q∈aW db rb fb eb vb ob og (bl.map fun b=>b.1) (iC bl)→q∈bI db rb ob og bl∨w.heap.size≤q:=fun q hq=>by
    unfold aW at hq;rw[List.mem_cons,List.mem_cons,List.mem_cons,List.mem_cons,List.mem_cons,List.mem_cons,List.mem_cons]at hq;rcases hq with e|e|e|e|e|e|e|e
    ·exact .inl (by simp[bI,e])
    ·exact .inl (by simp[bI,e])
    ·exact .inr (by omega)
    ·exact .inr (by omega)
    ·exact .inr (by omega)
    ·exact .inl (by simp[bI,e])
    ·exact .inl (by simp[bI,e])
    ·have:=yI e;refine .inl ?_;unfold bI;rw[List.mem_cons,List.mem_cons,List.mem_cons,List.mem_cons];exact .inr (.inr (.inr (.inr this)))
   refine⟨rfl,nb::aW db rb fb eb vb ob og (bl.map fun b=>b.1) (iC bl),_, ?_,fun q hq=> ?_,hM',LZ,hmod⟩
   ·unfold bK;rw[hP,hT,hL.each,RV];refine⟨db,rb,cap,ob,og,fb,cu,eb,vb,cO,bl.map fun b=>b.1,iC bl,by rw[hcells];exact hblk,by rw[←h3];exact pY,by rw[hL.many,←h3];simp[iC],rfl,fun hh=> ?_⟩;rcases hin nb hh with e|e
    ·exact h4 e
    ·omega
   ·rcases List.mem_cons.1 hq with e|e
    ·exact .inl (by simp[e])
    ·rcases hin q e with e|e
     ·exact .inl (by simp[e])
     ·exact .inr e
  ·have hP:N.step.ph= .mO (k+1):=by unfold Nd.step;rw[hp];simp only;rw[if_neg hk]
   have hT:N.step.T=N.T:=by unfold Nd.step;rw[hp]
   rw[if_neg (by rw[h3];exact hk)]at hif;refine⟨rfl,nb::bI db rb ob og bl,_, ?_,fun q hq=> .inl hq,hM',LZ,hmod⟩;unfold bK;rw[hP,hT,hL.each,RV];exact⟨db,rb,cap,ob,og,bl,by rw[hcells];exact hblk,hif,by rw[hL.many];exact h3,rfl,h4⟩
 |iV Ts next=>
  rw[hp]at h bS;obtain⟨db,rb,cap,ob,og,fb,cu,eb,vb,cO,bA,bs,h1,h2,h3,rfl,h4⟩:=h
  have hn:next<N.len:=by unfold Nd.left at hl;rw[hp]at hl;simp only at hl;omega
  simp only[List.mem_cons,not_or]at hF;obtain⟨f1,f2,f3,f4,c,f5⟩:=ho.fits hp hn ((x.add (cU 1) 1).add cV 1)
  have hst:=Le db rb cap ob og fb cu eb vb cO bA bs N.T Ts N.each N.dep next P x w h2 ho.tg.ok hn (by rw[h3];exact Yi f1) hM hE hF.2 hb0 (fun q hq=>ZR q (by simp[hq]))
  refine(CX h1 hst).mono ?_;rintro e w' ⟨rfl,pY,hM',hm⟩;rw[h3,Va]at pY hM';rw[f5]at hM';have LZ:dO x (((x.add (cU 1) 1).add cV 1).add cV c) 0 1:=((rZ x 1).trans (NS _ 1)).trans (NS _ c)
  have hnb:nb∉P.mb::aW db rb fb eb vb ob og bA bs:=by simp only[List.mem_cons,not_or];exact⟨fun e=>hF.1 e.symm,h4⟩
  have hP:N.step.ph= .iV (eP N.many N.au (ze,Ts) (bW (N.T.gs.getD next []))).2 (next+1):=by unfold Nd.step;rw[hp]
  have hT:N.step.T=takeN N.T next 8:=by unfold Nd.step;rw[hp]
  refine⟨rfl,nb::aW db rb fb eb vb ob og bA bs,_, ?_,fun q hq=> .inl hq,hM',LZ,hm.more (fun q hq=>by
   rcases List.mem_cons.1 hq with e|e
   ·simp[e]
   ·simp[e])⟩
  unfold bK;rw[hP,hT,hL.each,RV,Km _ _ ze ((x.add (cU 1) 1).add cV 1)];exact⟨db,rb,cap,ob,og,fb,cu,eb,vb,cO,bA,bs,by rw[hcells];exact h1.mod hm hnb,pY,by rw[hL.many];exact h3,rfl,h4⟩
theorem Sd (h:bK w nb F N)(ho:dV H N)(hb:N.ph.busy=true)(hl:N.left=0)(hm1:N.many=1):
  Calls Tryz.prog 170 #[aK nb] w fun e w'=>e= .returned (.tuple #[.pointer none,.nilIface])∧∃X F',bK w' nb F' ⟨N.pfx,N.au,0,0,X,.idle⟩∧dV H ⟨N.pfx,N.au,0,0,X,.idle⟩∧(Nd.mk N.pfx N.au 0 0 X .idle).ents=N.ents∧X.gs.length=N.each∧(∀q∈F',q∈F)∧Mod F w w':=by
 obtain⟨Ts,hp,hT⟩:=ended ho hb hl;have bS:=ho.ph;unfold kJ at bS;unfold bK at h;rw[hp]at h bS;obtain⟨db,rb,cap,ob,og,fb,cu,eb,vb,cO,bA,bs,h1,h2,h3,rfl,h4⟩:=h;rw[hm1]at h3;obtain⟨b,rfl⟩:=List.length_eq_one_iff.1 h3;have Vd:=h2.tabs.len;rw[h3]at Vd;obtain⟨X,rfl⟩:=List.length_eq_one_iff.1 Vd.symm;obtain⟨e1,e2,e3,_⟩:=aaS ho hp hT;obtain⟨m1,m2⟩:=iD (db:=db) (rb:=rb) (fb:=fb) (eb:=eb) (vb:=vb) (ob:=ob) (og:=og) (bA:=bA) (bs:=[b]) (b:=b) (by simp);refine(Nq nb ob db rb cap og fb cu eb vb cO b.1 b.2 bA N.pfx N.au N.kind N.T [X] N.each N.dep N.len w h1 h2 ho.pw.le rfl (fun q hq e=>h4 (e▸hq))).mono ?_;rintro e w' ⟨rfl,hb',hts,hm⟩;refine⟨rfl,X,[nb,b.1,b.2], ?_,e1,e2,e3,fun q hq=> ?_,hm.more (fun q hq=> ?_)⟩
 ·exact⟨b.1,b.2,hb',hts.at_ 0 b X rfl rfl,rfl,fun e=>h4 (e▸m1),fun e=>h4 (e▸m2)⟩
 ·simp at hq;rcases hq with rfl|rfl|rfl
  ·simp
  ·simp[m1]
  ·simp[m2]
 ·simp at hq;rcases hq with rfl|rfl
  ·simp
  ·simp[aW]
theorem Sg (h:bK w nb F N)(ho:dV H N)(hb:N.ph.busy=true)(hl:N.left=0)(hm2:N.many=2):
  Calls Tryz.prog 170 #[aK nb] w fun e w'=>∃qb,e= .returned (.tuple #[aK qb,.nilIface])∧w.heap.size≤qb∧N.au<5∧∃X Y F' F2,bK w' nb F' ⟨2*N.pfx,N.au+1,0,0,X,.idle⟩∧bK w' qb F2 ⟨2*N.pfx+1,N.au+1,0,0,Y,.idle⟩∧dV H ⟨2*N.pfx,N.au+1,0,0,X,.idle⟩∧dV H ⟨2*N.pfx+1,N.au+1,0,0,Y,.idle⟩∧
   (Nd.mk (2*N.pfx) (N.au+1) 0 0 X .idle).ents++(Nd.mk (2*N.pfx+1) (N.au+1) 0 0 Y .idle).ents=N.ents∧X.gs.length=N.each∧Y.gs.length=N.each∧(∀q∈F',q∈F)∧(∀q∈F2,q∈F∨w.heap.size≤q)∧(∀q∈F',q∉F2)∧Mod F w w':=by
 obtain⟨Ts,hp,hT⟩:=ended ho hb hl;have hpf:=ho.pfx;have hdp:=ho.deep;unfold bK at h;rw[hp]at h;obtain⟨db,rb,cap,ob,og,fb,cu,eb,vb,cO,bA,bs,h1,h2,h3,rfl,h4⟩:=h;rw[hm2]at h3;obtain⟨b,c,rfl⟩:=Qy h3;have Vd:=h2.tabs.len;rw[h3]at Vd;obtain⟨X,Y,rfl⟩:=Qy Vd.symm;obtain⟨e1,e2,e3,e4,e5,_,e6⟩:=aaT ho hp hT;obtain⟨m1,m2⟩:=iD (db:=db) (rb:=rb) (fb:=fb) (eb:=eb) (vb:=vb) (ob:=ob) (og:=og) (bA:=bA) (bs:=[b,c]) (b:=b) (by simp);obtain⟨m3,m4⟩:=iD (db:=db) (rb:=rb) (fb:=fb) (eb:=eb) (vb:=vb) (ob:=ob) (og:=og) (bA:=bA) (bs:=[b,c]) (b:=c) (by simp);have hlts:=h2.fM;have hnl:=h1.lt
 have afW:N.pfx≤1000:=by
  have:2^N.au≤2^5:=Nat.pow_le_pow_right (by decide) hdp;omega
 refine(Nr nb ob db rb cap og fb cu eb vb cO b.1 b.2 c.1 c.2 bA N.pfx N.au N.kind N.T [X,Y] N.each N.dep N.len w h1 h2 ho.pw.le rfl (fun q hq e=>h4 (e▸hq)) (by omega) (by omega)).mono ?_;rintro e w' ⟨qb,rfl,hb',hq',ZW,hts,hm⟩;have hne:=hts.ne 0 1 b c rfl rfl (by decide);refine⟨qb,rfl,ZW,e6,X,Y,[nb,b.1,b.2],[qb,c.1,c.2], ?_, ?_,e1,e2,e3,e4,e5,fun q hq=> ?_,fun q hq=> ?_,fun q hq hq2=> ?_,hm.more (fun q hq=> ?_)⟩
 ·refine⟨b.1,b.2, ?_,hts.at_ 0 b X rfl rfl,rfl,fun e=>h4 (e▸m1),fun e=>h4 (e▸m2)⟩;unfold kT;simpa[nI]using hb'
 ·refine⟨c.1,c.2, ?_,hts.at_ 1 c Y rfl rfl,rfl,fun e=> ?_,fun e=> ?_⟩
  ·unfold kT;simpa[nI]using hq'
  ·have:=hlts _ m3;omega
  ·have:=hlts _ m4;omega
 ·simp at hq;rcases hq with rfl|rfl|rfl
  ·simp
  ·simp[m1]
  ·simp[m2]
 ·simp at hq;rcases hq with rfl|rfl|rfl
  ·exact .inr ZW
  ·exact .inl (by simp[m3])
  ·exact .inl (by simp[m4])
 ·simp at hq hq2;have g1:=hlts _ m1;have g2:=hlts _ m2
  rcases hq with rfl|rfl|rfl<;>rcases hq2 with e|e|e
  ·omega
  ·exact h4 (e▸m3)
  ·exact h4 (e▸m4)
  ·omega
  ·exact hne.1 e
  ·exact hne.2.1 e
  ·omega
  ·exact hne.2.2.1 e
  ·exact hne.2.2.2 e
 ·simp at hq;rcases hq with rfl|rfl
  ·simp
  ·simp[aW]
end
end
section
variable {w : World} {jb qb rb sb : Nat} {b k : Int} {val : Nat → Value} {ids : List Nat}
def Si (w:World)(p:Addr):Nat:=match w.cell? p with|some (.int _ n)=>n.toNat|_=>0
def DY (sb qb:Nat)(w:World):Nat:=Si w ⟨sb,5,none⟩+Si w ⟨qb,2,none⟩
theorem d9.meas {c:Nat}(h:d9 w sb qb rb jb k (c:Int) val ids):DY sb qb w=c+ids.length:=by
 obtain⟨s,h1⟩:=h.blk;obtain⟨ring,first,h2⟩:=h.CR;have c5:=aj.cell h1 5;have c2:=h2.blk.cell 2;simp only[gl]at c5 c2;unfold DY Si;rw[c5,c2];simp
theorem qW (h:d9 w sb qb rb jb k b val ids):w.cell? ⟨sb,3,none⟩=some (pQ qb)∧w.cell? ⟨sb,4,none⟩=some (.map (some jb)):=by
 obtain⟨s,h1⟩:=h.blk;exact⟨aj.cell h1 3,aj.cell h1 4⟩
theorem d9.head {id:Nat}(h:d9 w sb qb rb jb k b val (id::ids)):Calls Tryz.prog 201 #[pQ qb] w fun e w'=>e= .returned (.tuple #[nI id,.bool true])∧w.drew=w':=by
 obtain⟨ring,first,h2⟩:=h.CR
 exact R4 qb rb ring first id ids w h2
theorem d9.aa4 (h:d9 w sb qb rb jb k b val []):Calls Tryz.prog 201 #[pQ qb] w fun e w'=>e= .returned (.tuple #[.int .i64 0,.bool false])∧w=w':=by
 obtain⟨ring,first,h2⟩:=h.CR
 exact Lm qb rb ring first [] w h2
theorem d9.balance (h:d9 w sb qb rb jb k b val ids):Calls Tryz.prog 202 #[.pointer (some ⟨sb,5,none⟩)] w fun e w'=>e= .returned (.int .i64 b)∧w=w':=by
 obtain⟨s,h1⟩:=h.blk;exact Ji sb b w h1
theorem CY {W0:World}{E:Nat→Addr}{P:MP}{α:Type}{jt:Nat→TypeId}{ja:Nat→Addr}{At:World→List Nat→α→Prop}{can:α→Nat→Prop}{left:α→Nat→Nat}{Stp:α→Nat→α→Prop}(HP:iT W0 E P jt ja At can left Stp)(s:SP)(F:List Nat)(c0:Nat)(hc:c0≤64)(ids:List Nat)(a:α)(x:bP)(hval:∀id,s.val id= .iface (jt id) (.pointer (some (ja id))))(hcan:∀id∈ids,can a id∧id≤1000)(w:World)(h:bF W0 E P At s w F w (c0:Int) ids a F x):
  Calls Tryz.prog 163 #[eU s.sb,mU P] w fun e w'=>∃A cc ended aL a' F' x' b',e= .returned (.slice A ended.length cc)∧w'.ownsRow w.heap.size 3 1 (.slice A ended.length cc) ended.length (dH ended)∧rY left Stp c0 ids a ended aL a'∧bF W0 E P At s w F w' b' aL a' F' x'∧dO x x' 0 c0∧nM P s F' (.slice A ended.length cc):=by
 have hval:=qd hval;have hlen:=qd h.aF.many;have H0:=qd h;have FC:=qd hcan;obtain⟨F0,KH⟩:∃F0,F0=F:=⟨_,rfl⟩;unfold eU mU;clear h hcan;rw[←KH]at H0⊢;clear KH;go_in;go_wp2;go_loopw [5,6,7] (fun v5 _ _ wr=>∃(c:Nat) (bZ e1:List Nat) (a1:α) (F1:List Nat) (x1:bP) (u:Nat),Hid (bF W0 E P At s w F0 wr (c:Int) bZ a1 F1 x1)∧wr.ownsRow w.heap.size 3 1 v5 e1.length (dH e1)∧Hid (∀e aL a',rY left Stp c bZ a1 e aL a'→rY left Stp c0 ids a (e1++e) aL a')∧(u+c=c0∧e1.length+bZ.length=ids.length)∧(∀id∈bZ,can a1 id∧id≤1000)∧dO x x1 0 u∧Hid (nM P s F1 v5)) (fun _ _ _ wr=>DY s.sb s.qb wr)
 case atStart=>exact⟨c0,ids,[],a,F0,x,0,H0,⟨rfl,.inl ⟨rfl,rfl⟩⟩,qd (fun _ _ _ h=>h),⟨by omega,by simp⟩,FC.out,dO.refl x,qd (fun g hg=>by cases hg)⟩
 case round=>
  obtain⟨c,bZ,e1,a1,F1,x1,u,HS,hO,hK,hu,hcan,Z9,Qz⟩:=hrel;obtain⟨A,vc,rfl⟩:=bU hO;have hE1:=HS.out.aF.many;have HM0:=qd HS.out.aF.meas;obtain⟨hu,hE2⟩:=hu;rcases bZ with _|⟨id,bZ⟩
  ·have HH:=qd HS.out.aF.aa4;have HF:=qd (hK.out _ _ _ (rY.nil c a1));have HO:=qd hO;have HC:=qd Z9
   have hu2:u≤c0:=by omega
   obtain⟨EH,EI⟩:=qW HS.out.aF;clear hO Z9 hcan;go_wp2_with fail;refine HH.out.mono ?_;rintro x w1 ⟨rfl,rfl⟩;go_wp2;go_ret;exact⟨A,vc,e1,[],a1,F1,x1,_,rfl,HO.out,by simpa using HF.out,HS.out,HC.out.mono (Nat.le_refl _) hu2,Qz.out⟩
  ·have HH:=qd HS.out.aF.head;obtain⟨EH,EI⟩:=qW HS.out.aF;have HO:=qd hO;have HC:=qd Z9;have Sj:=qd hcan;have hlo:=hO.lt;clear hO Z9 hcan;go_wp2_with fail;refine HH.out.mono ?_;rintro x w1 ⟨rfl,hdr⟩;have hb1:Below wr.heap.size wr w1:=hdr▸(Below.refl _ _).drew;clear hdr;replace HS:=qd (HS.out.below HP hb1);replace HO:=qB hb1 HO;clear EH EI HH;obtain⟨EH,EI⟩:=qW HS.out.aF;have HB:=qd HS.out.aF.balance;go_wp2_with fail;refine HB.out.mono ?_;rintro x w2 ⟨rfl,rfl⟩;rcases c with _|c
   ·have HF:=qd (hK.out _ _ _ (rY.broke (id::bZ) a1))
    have hu2:u≤c0:=by omega
    clear hK HB;simp only[Int.ofNat_zero]at*;go_wp2;go_ret;exact⟨A,vc,e1,_,a1,F1,x1,_,rfl,HO.out,by simpa using HF.out,HS.out,HC.out.mono (Nat.le_refl _) hu2,Qz.out⟩
   ·have hc0:¬((c+1:Nat):Int)=0:=by omega
    have mV:=Sj.out id (by simp);have hl:=HP.wG HS.out.pool mV.1;have HJ:=qd (HP.NQ mV.1);obtain⟨Fl,xR⟩:∃Fl,Fl=jB (jt id):=⟨_,rfl⟩;rw[←xR]at hl;have KI:=qd xR.symm;have HL:=qd hl;have yN:=qd (xP id mV.2);have nC:=qd HS.out.aF.map;have HV:=qd (show jC s.val (id::bZ) (id:Int)=some (.iface (jt id) (.pointer (some (ja id))))from by rw[xO (by simp),hval.out]);have hle:=HP.le HS.out.pool mV.1;have Hy:=qd mV;obtain⟨lf,hlf⟩:∃lf,lf=left a1 id:=⟨_,rfl⟩;rw[←hlf]at HL hle;have jm:=qd hlf;clear hl xR mV HB hlf;go_wp2_with (at_lookup;refine wE rfl _ _ rfl rfl nC.out _ rfl yN.out _ HV.out ?_);rw[qQ HJ.out,Result.andThen_ok,qR HJ.out];rw[show jB (jt id)=Fl from KI.out];rw[Oper.upon_enter];refine HL.out.mono ?_;rintro x w3 ⟨rfl,hb3⟩;replace HS:=qd (HS.out.below HP hb3);replace HO:=qB hb3 HO;replace nC:=qd HS.out.aF.map;have adV:=HS.out.size;clear HL EH EI hb3 KI;obtain⟨EH,EI⟩:=qW HS.out.aF;rcases Nat.eq_zero_or_pos lf with h0|h1
    ·subst h0;have zZ:=qd (show left a1 id=0 from jm.out.symm);have HR:=qd (AX HP s F0 F1 ((c+1:Nat):Int) (id::bZ) a1 x1 id (by simp) Hy.out.2 w3 HS.out);simp only[List.erase_cons_head]at HR;simp only[Int.ofNat_zero]at*;go_wp2_with fail;refine HR.out.mono ?_;rintro x w4 ⟨rfl,hs4,dP⟩;have hO4:=jJ HO.out dP (fun g hg hq=>Qz.out g hg (by simp[hq]));have hz4:=dP.size;clear dP HS HO HR EH EI nC;have adZ:=hs4.size;have UN:=qd hs4;clear hs4
     have ab5:e1.length+1≤100:=by have:=hlen.out;omega
     go_wp2_with (at_builtin;refine iN rfl rfl xM hO4 rfl rfl rfl rfl rfl (by omega) (by omega) ?_;intro v4 w5 dJ iy;obtain⟨A4,c4,rfl⟩:=bU dJ);obtain⟨hs5,ad7⟩:=UN.out.app HP hO4 (Nat.le_refl _) Qz.out iy;go_roundw
     case rel=>exact⟨c+1,bZ,e1++[id],a1,F1,x1,u,qd hs5,by simpa[dH]using dJ,qd (fun e aL a' hh=>by rw[List.append_assoc];exact hK.out _ _ _ (.ended zZ.out hh)),⟨by omega,by simp at hE2⊢;omega⟩,fun i hi=>Sj.out i (by simp[hi]),HC.out,qd (by simpa using ad7)⟩
     case measure=>
      rw[hs5.aF.meas,HM0.out];simp
    ·have hl1:¬(lf:Int)<1:=by omega
     have jy:=qd (NR HP s F0 F1 c (by omega) (id::bZ) a1 x1 id Hy.out.1 (by rw[←jm.out];exact h1) w3 HS.out);unfold mU at jy;go_wp2_with (at_lookup;refine wE rfl _ _ rfl rfl nC.out _ rfl yN.out _ HV.out ?_);refine jy.out.mono ?_;rintro x w4 ⟨rfl,a2,F2,x2,hst,hco,hs4,hF2,dP⟩;have hO4:=jJ HO.out dP Qz.out;have ab6:=Qz.out.step HO.out hF2;have FD:=qd (And.intro hs4 (And.intro hO4 (And.intro ab6 (And.intro hst hco))));have hz4:=dP.size;clear hs4 hO4 ab6 hst hco dP hF2;go_wp2;go_roundw
     case rel=>exact⟨c,id::bZ,e1,a2,F2,x2,u+1,qd FD.out.1,FD.out.2.1,qd (fun e aL a' hh=>hK.out _ _ _ (.step (by rw[←jm.out];exact h1) FD.out.2.2.2.1 hh)),⟨by omega,by omega⟩,fun i hi=>⟨HP.jg FD.out.2.2.2.1 (Sj.out i hi).1,(Sj.out i hi).2⟩,(HC.out.trans FD.out.2.2.2.2).mono (by omega) (by omega),qd FD.out.2.2.1⟩
     case measure=>
      rw[FD.out.1.aF.meas,HM0.out];omega
end
end Go.Proofs.YtkkibocdfijnhaaGreatDoor
