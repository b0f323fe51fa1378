/- A node's other operations, told of its entries and its job. -/
import Derived.Test.YtkddpchpcepjgaaGreatDoorCoCC
namespace Go.Proofs.YtkddpchpcepjgaaGreatDoor
set_option maxRecDepth 100000
set_option maxHeartbeats 4000000
open Go.RowKit cu
section
variable {a b f : ay} {l' : List ay} {o : Option ay} {Ts : List aC}
def ig (f:ay)(l:List ay):Option ay->Prop
 |none=>∀e∈l,bO e f=true
 |some m=>m∈l/\bO m f=false/\∀e∈l,bO e f=false->bO e m=false
theorem JF {c:ay}(h:bO a b=true)(k:bO b c=true):bO a c=true:=by
 simp[bO]at*;omega
theorem Aw (a:ay):bO a a=false:=by simp[bO]
theorem P8 {l:List ay}(h:ig f l o)(e:ay):ig f (l++[e]) (oC f o e):=by
 unfold oC
 cases hl:bO e f with
 |true=>
  simp only[vy,vq,yd,xx]
  cases o with
  |none=>
   intro x hx;rcases Zs.1 hx with h1|h1
   ·exact h x h1
   ·simp at h1;subst h1;exact hl
  |some m=>
   refine⟨yi _ h.1,h.2.1,λx hx lC=> ?_⟩;rcases Zs.1 hx with h1|h1
   ·exact h.2.2 x h1 lC
   ·simp at h1;subst h1;rw[hl]at lC;cases lC
 |false=>
  cases o with
  |none=>
   simp only[Bool.not_false,J1,if_true];refine⟨by simp,hl,λx hx lC=> ?_⟩;rcases Zs.1 hx with h1|h1
   ·rw[h x h1]at lC;cases lC
   ·simp at h1;subst h1;exact Aw _
  |some m=>
   simp only[Bool.not_false,J1]
   cases hm:bO e m with
   |true=>
    rw[if_pos rfl];refine⟨by simp,hl,λx hx lC=> ?_⟩;rcases Zs.1 hx with h1|h1
    ·cases hxe:bO x e with
     |false=>rfl
     |true=>have:=h.2.2 x h1 lC;rw[JF hxe hm]at this;cases this
    ·simp at h1;subst h1;exact Aw _
   |false=>
    rw[if_neg (by simp)];refine⟨yi _ h.1,h.2.1,λx hx lC=> ?_⟩;rcases Zs.1 hx with h1|h1
    ·exact h.2.2 x h1 lC
    ·simp at h1;subst h1;exact hm
theorem Er (f:ay):∀(es l:List ay) (o:Option ay),ig f l o->ig f (l++es) (dX f o es)
 | [],l,o,h=>by simpa[dX]using h
 |e::es,l,o,h=>by
  have:=Er f es (l++[e]) _ (P8 h e);simpa[dX]using this
theorem MG (f:ay)(es:List ay):ig f es (dX f none es):=by
 have:=Er f es [] none (by intro e he;cases he);simpa using this
theorem NQ {l:List ay}{o':Option ay}(h:ig f l o)(h':ig f l' o'):ig f (l++l') (tK o o'):=by
 unfold tK
 cases o' with
 |none=>
  cases o with
  |none=>
   intro x hx;rcases Zs.1 hx with h1|h1
   ·exact h x h1
   ·exact h' x h1
  |some m=>
   refine⟨yi _ h.1,h.2.1,λx hx lC=> ?_⟩;rcases Zs.1 hx with h1|h1
   ·exact h.2.2 x h1 lC
   ·rw[h' x h1]at lC;cases lC
 |some e=>
  cases o with
  |none=>
   refine⟨jj _ h'.1,h'.2.1,λx hx lC=> ?_⟩;rcases Zs.1 hx with h1|h1
   ·rw[h x h1]at lC;cases lC
   ·exact h'.2.2 x h1 lC
  |some m=>
   simp only
   cases hm:bO e m with
   |true=>
    rw[if_pos rfl];refine⟨jj _ h'.1,h'.2.1,λx hx lC=> ?_⟩;rcases Zs.1 hx with h1|h1
    ·cases hxe:bO x e with
     |false=>rfl
     |true=>have:=h.2.2 x h1 lC;rw[JF hxe hm]at this;cases this
    ·exact h'.2.2 x h1 lC
   |false=>
    rw[if_neg (by simp)];refine⟨yi _ h.1,h.2.1,λx hx lC=> ?_⟩;rcases Zs.1 hx with h1|h1
    ·exact h.2.2 x h1 lC
    ·cases hxm:bO x m with
     |false=>rfl
     |true=>
      have h2:=h'.2.2 x h1 lC
      have:bO e m=true:=by
       simp[bO]at*;omega
      rw[hm]at this;cases this
theorem Dn (f:ay):∀(Ts:List aC) (l:List ay) (o:Option ay),ig f l o->ig f (l++dF Ts) (Ts.foldl (λo T=>tK o (dX f none (aM T.gs))) o)
 | [],l,o,h=>by simpa[dF]using h
 |T::Ts,l,o,h=>by
  have:=Dn f Ts (l++aM T.gs) _ (NQ h (MG f (aM T.gs)));simpa[dF]using this
theorem JG (f:ay)(Ts:List aC):ig f (dF Ts) (gZ f Ts):=by
 have:=Dn f Ts [] none (by intro e he;cases he);simpa[gZ]using this
theorem iR.snoc {w:World}{bs:List (Nat×Nat)}{ob og:Nat}{T:aC}(h:iR w bs Ts)(hT:TabAt w ob og T)(h1:ob∉gT bs)(h2:og∉gT bs):iR w (bs++[(ob,og)]) (Ts++[T]):=by
 have hcase:∀(i:Nat) (b:Nat×Nat),(bs++[(ob,og)])[i]?=some b->bs[i]?=some b\/(i=bs.length/\b=(ob,og)):=λi b hb=>by
  by_cases hi:i<bs.length
  ·rw[Z2 hi]at hb;exact .inl hb
  ·rw[Z1 (by omega)]at hb
   have h0:i-bs.length=0:=by
    have:=(zz.1 hb).1;simp at this;omega
   rw[h0]at hb;simp at hb;exact .inr ⟨by omega,hb.symm⟩
 refine⟨by simp[h.len],λi b X hb hX=> ?_,λi j b c hb hc hij=> ?_⟩
 ·rcases hcase i b hb with h3|⟨rfl,rfl⟩
  ·rw[Z2 (by rw[<-h.len];exact(zz.1 h3).1)]at hX;exact h.at_ i b X h3 hX
  ·rw[h.len,Z1 (zb _),ve]at hX;cases hX;exact hT
 ·have hf:∀b∈bs,b.1≠ob/\b.1≠og/\b.2≠ob/\b.2≠og:=λb hb=>
   ⟨λe=>h1 (e▸dV.2 ⟨b,hb,.inl rfl⟩),λe=>h2 (e▸dV.2 ⟨b,hb,.inl rfl⟩),λe=>h1 (e▸dV.2 ⟨b,hb,.inr rfl⟩),λe=>h2 (e▸dV.2 ⟨b,hb,.inr rfl⟩)⟩
  rcases hcase i b hb with h3|⟨rfl,rfl⟩<;>rcases hcase j c hc with h4|⟨rfl,rfl⟩
  ·exact h.ne i j b c h3 h4 hij
  ·exact hf b (zE h3)
  ·obtain⟨a1,a2,a3,a4⟩:=hf c (zE h4);exact⟨a1.symm,a3.symm,a2.symm,a4.symm⟩
  ·exact absurd rfl hij
theorem aej (d d' h:Nat):dJ 1 d h=dJ 1 d' h:=by unfold dJ;rw[if_pos rfl,if_pos rfl]
theorem aaT (d d':Nat):vo 1 d=vo 1 d':=by funext st e;unfold vo;rw[aej d d']
theorem acj (d d':Nat):∀(es:List ay) (Ts:List aC),Fits 1 d Ts es->Fits 1 d' Ts es
 | [],_,_=>trivial
 |e::es,Ts,h=>by
  unfold Fits at h|-;rw[aej d' d];exact⟨h.1,acj d d' es _ h.2⟩
theorem aaU {N:Nd}{es:List ay}(h:Fits N.many N.au Ts es):Fits N.many N.dep Ts es:=by
 unfold Nd.dep;split
 ·next h1=>rw[h1]at h|-;exact acj _ _ _ _ h
 ·exact h
theorem XO (N:Nd)(st:bS×List aC)(es:List ay):fA N.many N.dep st es=fA N.many N.au st es:=by
 unfold Nd.dep;split
 ·next h1=>rw[h1];unfold fA;rw[aaT]
 ·rfl
section
variable {W0 : World} {E : Nat -> Addr} {H : Nat -> Nat} {nb : Nat} {F : List Nat} {N : Nd} {P : MP} {x : bS} {w : World}
theorem aek (h:bM w nb F N):∃tb dv,aj w nb 177 (lY N tb dv):=by
 unfold bM at h;split at h
 ·obtain⟨tb,gb,h1,_⟩:=h;exact⟨_,_,h1⟩
 ·obtain⟨db,rb,cap,ob,og,bl,h1,_⟩:=h;exact⟨_,_,h1⟩
 ·obtain⟨db,rb,cap,ob,og,fb,cB,eb,vb,dw,bC,bs,h1,_⟩:=h;exact⟨_,_,h1⟩
theorem MH (h:bM w nb F N):Calls Tryz.prog 183 #[aK nb] w λe w'=>e= .returned (.tuple #[nI N.pfx,nI N.au])/\w.drew=w':=by
 obtain⟨tb,dv,hb⟩:=aek h;exact RH nb tb N.pfx N.au N.kind dv w hb
theorem adg (h:bM w nb F N)(ho:dY H N):Calls Tryz.prog 275 #[aK nb] w λe w'=>e= .returned (nI N.left)/\Below w.heap.size w w':=by
 have hl:=ho.pw.le;have bV:=ho.ph;unfold lN at bV;unfold bM at h;unfold Nd.left
 cases hp:N.ph with
 |idle=>
  rw[hp]at h;obtain⟨tb,gb,h1,_⟩:=h;exact(NJ nb tb N.pfx N.au N.kind w h1).mono λe w' ⟨a,b⟩=>⟨a,b▸Below.refl _ _⟩
 |nR k=>
  rw[hp]at h;obtain⟨db,rb,cap,ob,og,bl,h1,h2,h3,_⟩:=h;have:=Nv db rb cap ob og bl N.T N.each N.dep k w h2 hl;rw[h3]at this;exact Br nb ob db N.pfx N.au N.kind _ (λV V'=>Below V.heap.size V V') w h1 this
 |jq Ts next=>
  rw[hp]at h bV;obtain⟨db,rb,cap,ob,og,fb,cB,eb,vb,dw,bC,bs,h1,h2,h3,_⟩:=h
  have:=rD db rb cap ob og fb cB eb vb dw bC bs N.T Ts N.each N.dep next w h2 hl bV.2.1
  exact(Br nb ob db N.pfx N.au N.kind _ (λV V'=>V.drew=V') w h1 this).mono λe w' ⟨a,b⟩=>⟨a,b▸(Below.refl _ _).drew⟩
theorem XP (h:bM w nb F N)(ho:dY H N):Calls Tryz.prog 101 #[aK nb] w λe w'=>e= .returned (nI N.groups)/\w=w':=by
 have hl:=ho.pw.le;have bV:=ho.ph;unfold lN at bV;unfold bM at h;unfold Nd.groups
 cases hp:N.ph with
 |idle=>
  rw[hp]at h;obtain⟨tb,gb,h1,h2,_⟩:=h;exact Jw nb tb gb N.pfx N.au N.kind N.T w h1 h2
 |nR k=>
  rw[hp]at h bV;obtain⟨db,rb,cap,ob,og,bl,h1,h2,h3,_⟩:=h;obtain⟨k1,k2,_⟩:=gF ho.pw bV.1
  have:=Gh db rb cap ob og (bl.map λb=>b.1) N.T N.each (nI N.dep) (.slice none 0 0) (.pointer none) (.bool false) k1.le (by rw[qS];omega) hl w (by rw[qS];exact h2.blk) h2.row (λb hb=>by
   obtain⟨c,hc,rfl⟩:=Z3.1 hb;obtain⟨i,hi⟩:=qs hc
   exact⟨_,_,(h2.pq i c hi).blk⟩) h2.tab
  rw[qS,h3]at this;exact yX nb ob db N.pfx N.au N.kind _ (λV V'=>V=V') w h1 this
 |jq Ts next=>
  rw[hp]at h bV;obtain⟨db,rb,cap,ob,og,fb,cB,eb,vb,dw,bC,bs,h1,h2,h3,_⟩:=h;obtain⟨k1,k2,_⟩:=gF ho.pw bV.1;have:=Gh db rb cap ob og bC N.T N.each (nI N.dep) (.slice (some ⟨fb,0,none⟩) bs.length cB) (pQ eb) (.bool false) k1.le (by rw[h2.eq,h3];omega) hl w h2.blk h2.row (λb hb=>⟨_,_,h2.pq b hb⟩) h2.tab;rw[h2.eq,h3]at this;exact yX nb ob db N.pfx N.au N.kind _ (λV V'=>V=V') w h1 this
theorem NR (gl:Nat)(h:bM w nb F N)(hb:N.ph.busy=true):Calls Tryz.prog 125 #[aK nb,nI gl] w λe w'=>e= .returned (.tuple #[.int .i64 0,.bool false])/\Below w.heap.size w w':=by
 unfold bM at h
 cases hp:N.ph with
 |idle=>rw[hp]at hb;cases hb
 |nR k=>
  rw[hp]at h;obtain⟨db,rb,cap,ob,og,bl,h1,_⟩:=h;exact(zQ nb ob db N.pfx N.au N.kind gl w h1).mono λe w' ⟨a,b⟩=>⟨a,b▸Below.refl _ _⟩
 |jq Ts next=>
  rw[hp]at h;obtain⟨db,rb,cap,ob,og,fb,cB,eb,vb,dw,bC,bs,h1,_⟩:=h;exact(zQ nb ob db N.pfx N.au N.kind gl w h1).mono λe w' ⟨a,b⟩=>⟨a,b▸Below.refl _ _⟩
theorem NS (gl:Nat)(h:bM w nb F N)(ho:dY H N)(hi:N.ph= .idle):Calls Tryz.prog 125 #[aK nb,nI gl] w λe w'=>e= .returned (.tuple #[.int .i64 ((jR N.T.live N.T.dh N.len N.au gl:Nat):Int),.bool (fI N.T.live N.T.dh N.len N.au gl)])/\Below w.heap.size w w':=by
 unfold bM at h;rw[hi]at h;obtain⟨tb,gb,h1,h2,_⟩:=h;exact KG nb tb gb N.au gl N.pfx N.kind N.T w h1 h2 ho.tg.ok
theorem aaV (gl kind:Nat)(hgl:gl<=5)(h:bM w nb F N)(ho:dY H N)(hi:N.ph= .idle)(hk:jR N.T.live N.T.dh N.len N.au gl=kind)(h0:kind≠0):Calls Tryz.prog 127 #[aK nb,nI kind] w λe w'=>e= .returned .nilIface/\∃F',bM w' nb F' (N.start kind)/\(∀q∈F',q∈F\/w.heap.size<=q)/\Mod [nb] w w':=by
 obtain⟨hs,_⟩:=PE ho hi hgl hk h0;have bV:=hs.ph;have hK:kT (N.start kind):=bV.1;obtain⟨k1,k2,k3,k4,k5⟩:=gF (N:=N.start kind) ho.pw hK;have hd:=ho.deep
 have hd':N.au<5\/(N.start kind).many=1/\N.au<=5:=by
  rcases hK with h1|h1|h1
  ·exact .inr ⟨by unfold Nd.many;rw[h1];rfl,hd⟩
  ·exact .inr ⟨by unfold Nd.many;rw[h1.1];rfl,hd⟩
  ·exact .inl h1.2.2
 unfold bM at h;rw[hi]at h;obtain⟨tb,gb,h1,h2,rfl,h3,h4⟩:=h;refine(U2 nb tb gb kind (N.start kind).each (N.start kind).many N.au N.pfx N.kind N.T hd' w h1 h2 ho.tg.ok k1 k5 h3 h4).mono ?_;rintro e w' ⟨rfl,db,hb,⟨rb,cap,bl,l1,l2,l3,l4,qX⟩,hm⟩;have hnl:=h1.lt;refine⟨rfl,nb::bL db rb tb gb bl, ?_,λq hq=> ?_,hm⟩
 ·unfold bM;show∃db rb cap ob og bl,_;refine⟨db,rb,cap,tb,gb,bl,hb,qX,l4,rfl,λhh=> ?_⟩;simp only[bL,zt]at hh;rcases hh with e|e|e|e|e
  ·omega
  ·omega
  ·exact h3 e
  ·exact h4 e
  ·have:=l3 nb e;omega
 ·simp only[bL,zt]at hq;rcases hq with e|e|e|e|e|e
  ·exact .inl (by simp[e])
  ·exact .inr (by omega)
  ·exact .inr (by omega)
  ·exact .inl (by simp[e])
  ·exact .inl (by simp[e])
  ·exact .inr (l3 q e)
theorem aaW (key hash:Nat)(h:bM w nb F N)(ho:dY H N)(hM:aN w P x)(hE:Env W0 E w)(hb0:W0.heap.size<=P.mb)(hF:P.mb∉F):
  Calls Tryz.prog 188 #[aK nb,aI (some ⟨P.mb,P.mo,none⟩) cP,nU hash,nU key] w λe w'=>∃o x',e= .returned (fP o)/\ig ⟨key,0,hash⟩ N.ents o/\aN w' P x'/\dU x x' 192 0/\Mod [P.mb] w w':=by
 have hl:=ho.pw.le;have bV:=ho.ph;unfold lN at bV;unfold bM at h
 have fin:∀(w':World) (n:Nat),Through (λV V'=>aN V' P (x.add cP n)/\Mod [P.mb] V V') w w'->n<=192->∃x',aN w' P x'/\dU x x' 192 0/\Mod [P.mb] w w':=λw' n ht hn=>by
  obtain⟨h1,h2⟩:=ht.o (by simpa using hM.lt) (λV' g hg hR hm=>hR.mod hm (by have:=hM.lt;simp;omega));exact⟨_,h1,(zh x n).mono hn (zb _),h2⟩
 cases hp:N.ph with
 |idle=>
  rw[hp]at h;obtain⟨tb,gb,h1,h2,rfl,h3,h4⟩:=h
  have hE':N.ents=aM N.T.gs:=by unfold Nd.ents;rw[hp];rfl
  refine(KD nb tb N.pfx N.au N.kind hash key P cP ((dX ⟨key,0,hash⟩ none (aM N.T.gs)).getD ⟨0,0,0⟩) (dX ⟨key,0,hash⟩ none (aM N.T.gs)).isSome [P.mb] (λV V'=>aN V' P (x.add cP N.T.gs.length)/\Mod [P.mb] V V') w h1 (by simpa using hM.lt) λV hV=> ?_).mono λe w' ⟨a,b⟩=> ?_
  ·exact(Gd tb gb N.T P x cP hash key hl V (h2.below hV) (hM.below hV) (hE.next hV) (λe=>hF (by simp[e])) (λe=>hF (by simp[e])) hb0).mono λe V' ⟨a,b,c⟩=>⟨a,c,b,c⟩
  ·obtain⟨x',c,d⟩:=fin w' _ b (by unfold Nd.len at hl;omega);exact⟨_,x',a,by rw[hE'];exact MG _ _,c,d⟩
 |nR k=>
  rw[hp]at h;obtain⟨db,rb,cap,ob,og,bl,h1,h2,h3,rfl,h4⟩:=h
  have hE':N.ents=dF [N.T]:=by unfold Nd.ents;rw[hp];simp[Bv,dF]
  have nA:P.mb≠ob:=λe=>hF (by simp[bL,e]);have hog:P.mb≠og:=λe=>hF (by simp[bL,e]);refine(zP nb ob db N.pfx N.au N.kind hash key P cP ((gZ ⟨key,0,hash⟩ [N.T]).getD ⟨0,0,0⟩) (gZ ⟨key,0,hash⟩ [N.T]).isSome [P.mb] (λV V'=>aN V' P (x.add cP (tL [N.T]))/\Mod [P.mb] V V') w h1 (by simpa using hM.lt) λV hV=> ?_).mono λe w' ⟨a,b⟩=> ?_
  ·have h2':=h2.mod (Mod.of_below hV []) (by simp)
   have hts:iR V [(ob,og)] [N.T]:=by
    have:=(iR.mk (w:=V) (bs:=[]) (Ts:=[]) rfl (λj b T hb=>by simp at hb) (λi j b c hb=>by simp at hb)).snoc h2'.tab (by simp[gT]) (by simp[gT]);simpa using this
   exact(Js db ob 0 none [] (by simp) _ _ _ _ [(ob,og)] [N.T] P x cP hash key V h2'.blk ⟨by simp[ptrs],λhh=>by simp at hh⟩ rfl hts (λT hT=>by simp at hT;subst hT;exact hl) (hM.below hV) (hE.next hV) hb0 (λb hb=>by simp at hb;subst hb;exact⟨nA,hog⟩)).mono λe V' ⟨a,b,c⟩=>⟨a,c,b,c⟩
  ·obtain⟨x',c,d⟩:=fin w' _ b (by unfold tL;unfold Nd.len at hl;simp;omega);exact⟨_,x',a,by rw[hE'];exact JG _ _,c,d⟩
 |jq Ts next=>
  rw[hp]at h bV;obtain⟨db,rb,cap,ob,og,fb,cB,eb,vb,dw,bC,bs,h1,h2,h3,rfl,h4⟩:=h;obtain⟨g1,g2,g3,g4,g5⟩:=bV;obtain⟨k1,k2,k3,k4,_⟩:=gF ho.pw g1
  have hE':N.ents=dF (Ts++[N.T]):=by unfold Nd.ents;rw[hp];simp[Bv,dF]
  have hg:∀T∈Ts++[N.T],T.gs.length<=64:=λT hT=>by
   rcases Zs.1 hT with h5|h5
   ·obtain⟨j,hj⟩:=qs h5;rw[(g3.tg j T hj).2];exact k1.le
   ·simp at h5;subst h5;exact hl
  have hsum:∀l:List aC,(∀T∈l,T.gs.length<=64)->tL l<=64*l.length:=λl=>by
   induction l with
   |nil=>intro _;simp[tL]
   |cons T l ih=>
    intro hh;have h6:=ih (λX hX=>hh X (by simp[hX]));have h7:=hh T (by simp);unfold tL at h6|-;simp only[ye,List.sum_cons,ZS];omega
  have hs:=hsum _ hg;have hlen:=g3.len;rw[ZD,xl,hlen]at hs;refine(zP nb ob db N.pfx N.au N.kind hash key P cP ((gZ ⟨key,0,hash⟩ (Ts++[N.T])).getD ⟨0,0,0⟩) (gZ ⟨key,0,hash⟩ (Ts++[N.T])).isSome [P.mb] (λV V'=>aN V' P (x.add cP (tL (Ts++[N.T])))/\Mod [P.mb] V V') w h1 (by simpa using hM.lt) λV hV=> ?_).mono λe w' ⟨a,b⟩=> ?_
  ·have h2':=h2.mod (Mod.of_below hV []) (by simp);have hnd:=h2.nd;unfold aW at hnd;simp only[qa,zt,Zs,not_or]at hnd;obtain⟨_,_,_,_,_,⟨_,_,f8⟩,⟨_,g8⟩,_⟩:=hnd;have hts:=h2'.tabs.snoc h2'.tab f8 g8
   exact(Js db ob cB (some ⟨fb,0,none⟩) (bs.map Prod.fst) (by rw[qS];omega) _ _ _ _ (bs++[(ob,og)]) (Ts++[N.T]) P x cP hash key V (by rw[qS];exact h2'.blk) (fO.reads h2'.fresh) (by simp) hts hg (hM.below hV) (hE.next hV) hb0 (λb hb=>by
    rcases Zs.1 hb with h5|h5
    ·obtain⟨m1,m2⟩:=iU (db:=db) (rb:=rb) (fb:=fb) (eb:=eb) (vb:=vb) (ob:=ob) (og:=og) (bC:=bC) h5;exact⟨λe=>hF (by rw[e];simp[m1]),λe=>hF (by rw[e];simp[m2])⟩
    ·simp at h5;subst h5
     exact⟨λe=>hF (by simp[aW,e]),λe=>hF (by simp[aW,e])⟩)).mono λe V' ⟨a,b,c⟩=>⟨a,c,b,c⟩
  ·obtain⟨x',c,d⟩:=fin w' _ b (by omega);exact⟨_,x',a,by rw[hE'];exact JG _ _,c,d⟩
theorem Tj {α:Type}{l:List α}(h:l.length=2):∃a b,l=[a,b]:=by
 match l,h with
 | [a,b],_=>exact⟨a,b,rfl⟩
theorem Es {nb tb db:Nat}{pfx au job:Int}{R:World->Prop}(h:aj w nb 177 #[.int .i64 pfx,.int .i64 au,pQ tb,.int .i64 job,pQ db])(hc:Calls Tryz.prog 277 #[bQ db,.pointer (some ⟨P.mb,P.mo,none⟩)] w λe w'=>e= .returned (.bool true)/\R w'):
  Calls Tryz.prog 276 #[aK nb,.pointer (some ⟨P.mb,P.mo,none⟩)] w λe w'=>e= .returned (.bool true)/\R w':=KF nb tb db pfx au job P (λ_ V'=>R V') w h hc
theorem adh (h:bM w nb F N)(ho:dY H N)(hl:1<=N.left)(hM:aN w P x)(hE:Env W0 E w)(hb0:W0.heap.size<=P.mb)(hF:P.mb∉F)(hbF:∀q∈F,W0.heap.size<=q):
  Calls Tryz.prog 276 #[aK nb,nX P] w λe w'=>e= .returned (.bool true)/\∃F' x',bM w' nb F' N.step/\(∀q∈F',q∈F\/w.heap.size<=q)/\aN w' P x'/\dU x x' 0 1/\Mod (P.mb::F) w w':=by
 have hL:=sG N
 have U1:N.step.dep=N.dep:=by unfold Nd.dep;rw[hL.many,hL.au]
 have hcells:∀tb dv,lY N.step tb dv=lY N tb dv:=λtb dv=>by unfold lY;rw[hL.pfx,hL.au,hL.kind]
 have bV:=ho.ph;unfold lN at bV;unfold bM at h
 cases hp:N.ph with
 |idle=>unfold Nd.left at hl;rw[hp]at hl;simp at hl
 |nR k=>
  rw[hp]at h bV;obtain⟨db,rb,cap,ob,og,bl,h1,h2,h3,rfl,h4⟩:=h;simp only[zt,not_or]at hF;have hst:=NC db rb cap ob og bl N.T N.each N.dep k P x w h2 hM hE hF.2 hb0 (λq hq=>hbF q (by simp[hq]));refine(Es h1 hst).mono ?_;rintro e w' ⟨rfl,hM',hm,hif⟩;have Oi:dU x ((x.add cV 1).add (cU 1) 1) 0 1:=(P7 x 1).trans (tZ _ 1)
  have hnb:nb∉P.mb::bL db rb ob og bl:=by simp only[zt,not_or];exact⟨λe=>hF.1 e.symm,h4⟩
  have hblk:=h1.mod hm hnb
  have hmod:Mod (P.mb::nb::bL db rb ob og bl) w w':=hm.more (λq hq=>by
   rcases zt.1 hq with e|e
   ·simp[e]
   ·simp[e])
  by_cases hk:k+1=N.each*N.many
  ·have hP:N.step.ph= .jq (List.replicate N.many (eB N.each N.each)) 0:=by unfold Nd.step;rw[hp];simp only;rw[if_pos hk]
   have hT:N.step.T=N.T:=by unfold Nd.step;rw[hp]
   rw[if_pos (by rw[h3];exact hk)]at hif;obtain⟨fb,cB,eb,vb,dw,qX,l1,l2,l3⟩:=hif;have hnl:=h1.lt
   have hin:∀q,q∈aW db rb fb eb vb ob og (bl.map λb=>b.1) (iT bl)->q∈bL db rb ob og bl\/w.heap.size<=q:=λq hq=>by
    unfold aW at hq;rw[zt,zt,zt,zt,zt,zt,zt]at hq;rcases hq with e|e|e|e|e|e|e|e
    ·exact .inl (by simp[bL,e])
    ·exact .inl (by simp[bL,e])
    ·exact .inr (by omega)
    ·exact .inr (by omega)
    ·exact .inr (by omega)
    ·exact .inl (by simp[bL,e])
    ·exact .inl (by simp[bL,e])
    ·have:=zN e;refine .inl ?_;unfold bL;rw[zt,zt,zt,zt];exact .inr (.inr (.inr (.inr this)))
   refine⟨rfl,nb::aW db rb fb eb vb ob og (bl.map λb=>b.1) (iT bl),_, ?_,λq hq=> ?_,hM',Oi,hmod⟩
   ·unfold bM;rw[hP,hT,hL.each,U1];refine⟨db,rb,cap,ob,og,fb,cB,eb,vb,dw,bl.map λb=>b.1,iT bl,by rw[hcells];exact hblk,by rw[<-h3];exact qX,by rw[hL.many,<-h3];simp[iT],rfl,λhh=> ?_⟩;rcases hin nb hh with e|e
    ·exact h4 e
    ·omega
   ·rcases zt.1 hq with e|e
    ·exact .inl (by simp[e])
    ·rcases hin q e with e|e
     ·exact .inl (by simp[e])
     ·exact .inr e
  ·have hP:N.step.ph= .nR (k+1):=by unfold Nd.step;rw[hp];simp only;rw[if_neg hk]
   have hT:N.step.T=N.T:=by unfold Nd.step;rw[hp]
   rw[if_neg (by rw[h3];exact hk)]at hif;refine⟨rfl,nb::bL db rb ob og bl,_, ?_,λq hq=> .inl hq,hM',Oi,hmod⟩;unfold bM;rw[hP,hT,hL.each,U1];exact⟨db,rb,cap,ob,og,bl,by rw[hcells];exact hblk,hif,by rw[hL.many];exact h3,rfl,h4⟩
 |jq Ts next=>
  rw[hp]at h bV;obtain⟨db,rb,cap,ob,og,fb,cB,eb,vb,dw,bC,bs,h1,h2,h3,rfl,h4⟩:=h
  have hn:next<N.len:=by unfold Nd.left at hl;rw[hp]at hl;simp only at hl;omega
  simp only[zt,not_or]at hF;obtain⟨f1,f2,f3,f4,c,f5⟩:=ho.fits hp hn ((x.add (cU 1) 1).add cV 1)
  have hst:=NA db rb cap ob og fb cB eb vb dw bC bs N.T Ts N.each N.dep next P x w h2 ho.tg.ok hn (by rw[h3];exact aaU f1) hM hE hF.2 hb0 (λq hq=>hbF q (by simp[hq]))
  refine(Es h1 hst).mono ?_;rintro e w' ⟨rfl,qX,hM',hm⟩;rw[h3,XO]at qX hM';rw[f5]at hM';have Oi:dU x (((x.add (cU 1) 1).add cV 1).add cV c) 0 1:=((tZ x 1).trans (P7 _ 1)).trans (P7 _ c)
  have hnb:nb∉P.mb::aW db rb fb eb vb ob og bC bs:=by simp only[zt,not_or];exact⟨λe=>hF.1 e.symm,h4⟩
  have hP:N.step.ph= .jq (fA N.many N.au (Ap,Ts) (bX (N.T.gs.getD next []))).2 (next+1):=by unfold Nd.step;rw[hp]
  have hT:N.step.T=takeN N.T next 8:=by unfold Nd.step;rw[hp]
  refine⟨rfl,nb::aW db rb fb eb vb ob og bC bs,_, ?_,λq hq=> .inl hq,hM',Oi,hm.more (λq hq=>by
   rcases zt.1 hq with e|e
   ·simp[e]
   ·simp[e])⟩
  unfold bM;rw[hP,hT,hL.each,U1,Mh _ _ Ap ((x.add (cU 1) 1).add cV 1)];exact⟨db,rb,cap,ob,og,fb,cB,eb,vb,dw,bC,bs,by rw[hcells];exact h1.mod hm hnb,qX,by rw[hL.many];exact h3,rfl,h4⟩
theorem Vf (h:bM w nb F N)(ho:dY H N)(hb:N.ph.busy=true)(hl:N.left=0)(hm1:N.many=1):
  Calls Tryz.prog 182 #[aK nb] w λe w'=>e= .returned (.tuple #[.pointer none,.nilIface])/\∃X F',bM w' nb F' ⟨N.pfx,N.au,0,0,X,.idle⟩/\dY H ⟨N.pfx,N.au,0,0,X,.idle⟩/\(Nd.mk N.pfx N.au 0 0 X .idle).ents=N.ents/\X.gs.length=N.each/\(∀q∈F',q∈F)/\Mod F w w':=by
 obtain⟨Ts,hp,hT⟩:=ended ho hb hl;have bV:=ho.ph;unfold lN at bV;unfold bM at h;rw[hp]at h bV;obtain⟨db,rb,cap,ob,og,fb,cB,eb,vb,dw,bC,bs,h1,h2,h3,rfl,h4⟩:=h;rw[hm1]at h3;obtain⟨b,rfl⟩:=List.length_eq_one_iff.1 h3;have XQ:=h2.tabs.len;rw[h3]at XQ;obtain⟨X,rfl⟩:=List.length_eq_one_iff.1 XQ.symm;obtain⟨e1,e2,e3,_⟩:=ac4 ho hp hT;obtain⟨m1,m2⟩:=iU (db:=db) (rb:=rb) (fb:=fb) (eb:=eb) (vb:=vb) (ob:=ob) (og:=og) (bC:=bC) (bs:=[b]) (b:=b) (by simp);refine(Pt nb ob db rb cap og fb cB eb vb dw b.1 b.2 bC N.pfx N.au N.kind N.T [X] N.each N.dep N.len w h1 h2 ho.pw.le rfl (λq hq e=>h4 (e▸hq))).mono ?_;rintro e w' ⟨rfl,hb',hts,hm⟩;refine⟨rfl,X,[nb,b.1,b.2], ?_,e1,e2,e3,λq hq=> ?_,hm.more (λq hq=> ?_)⟩
 ·exact⟨b.1,b.2,hb',hts.at_ 0 b X rfl rfl,rfl,λe=>h4 (e▸m1),λe=>h4 (e▸m2)⟩
 ·simp at hq;rcases hq with rfl|rfl|rfl
  ·simp
  ·simp[m1]
  ·simp[m2]
 ·simp at hq;rcases hq with rfl|rfl
  ·simp
  ·simp[aW]
theorem Vg (h:bM w nb F N)(ho:dY H N)(hb:N.ph.busy=true)(hl:N.left=0)(hm2:N.many=2):
  Calls Tryz.prog 182 #[aK nb] w λe w'=>∃qb,e= .returned (.tuple #[aK qb,.nilIface])/\w.heap.size<=qb/\N.au<5/\∃X Y F' F2,bM w' nb F' ⟨2*N.pfx,N.au+1,0,0,X,.idle⟩/\bM w' qb F2 ⟨2*N.pfx+1,N.au+1,0,0,Y,.idle⟩/\dY H ⟨2*N.pfx,N.au+1,0,0,X,.idle⟩/\dY H ⟨2*N.pfx+1,N.au+1,0,0,Y,.idle⟩/\
   (Nd.mk (2*N.pfx) (N.au+1) 0 0 X .idle).ents++(Nd.mk (2*N.pfx+1) (N.au+1) 0 0 Y .idle).ents=N.ents/\X.gs.length=N.each/\Y.gs.length=N.each/\(∀q∈F',q∈F)/\(∀q∈F2,q∈F\/w.heap.size<=q)/\(∀q∈F',q∉F2)/\Mod F w w':=by
 obtain⟨Ts,hp,hT⟩:=ended ho hb hl;have hpf:=ho.pfx;have hdp:=ho.deep;unfold bM at h;rw[hp]at h;obtain⟨db,rb,cap,ob,og,fb,cB,eb,vb,dw,bC,bs,h1,h2,h3,rfl,h4⟩:=h;rw[hm2]at h3;obtain⟨b,c,rfl⟩:=Tj h3;have XQ:=h2.tabs.len;rw[h3]at XQ;obtain⟨X,Y,rfl⟩:=Tj XQ.symm;obtain⟨e1,e2,e3,e4,e5,_,e6⟩:=ac5 ho hp hT;obtain⟨m1,m2⟩:=iU (db:=db) (rb:=rb) (fb:=fb) (eb:=eb) (vb:=vb) (ob:=ob) (og:=og) (bC:=bC) (bs:=[b,c]) (b:=b) (by simp);obtain⟨m3,m4⟩:=iU (db:=db) (rb:=rb) (fb:=fb) (eb:=eb) (vb:=vb) (ob:=ob) (og:=og) (bC:=bC) (bs:=[b,c]) (b:=c) (by simp);have hlts:=h2.fC;have hnl:=h1.lt
 have aip:N.pfx<=1000:=by
  have:2^N.au<=2^5:=xa (by decide) hdp;omega
 refine(Pv nb ob db rb cap og fb cB eb vb dw b.1 b.2 c.1 c.2 bC N.pfx N.au N.kind N.T [X,Y] N.each N.dep N.len w h1 h2 ho.pw.le rfl (λq hq e=>h4 (e▸hq)) (by omega) (by omega)).mono ?_;rintro e w' ⟨qb,rfl,hb',hq',hql,hts,hm⟩;have hne:=hts.ne 0 1 b c rfl rfl (by decide);refine⟨qb,rfl,hql,e6,X,Y,[nb,b.1,b.2],[qb,c.1,c.2], ?_, ?_,e1,e2,e3,e4,e5,λq hq=> ?_,λq hq=> ?_,λq hq hq2=> ?_,hm.more (λq hq=> ?_)⟩
 ·refine⟨b.1,b.2, ?_,hts.at_ 0 b X rfl rfl,rfl,λe=>h4 (e▸m1),λe=>h4 (e▸m2)⟩;unfold lY;simpa[nI]using hb'
 ·refine⟨c.1,c.2, ?_,hts.at_ 1 c Y rfl rfl,rfl,λe=> ?_,λe=> ?_⟩
  ·unfold lY;simpa[nI]using hq'
  ·have:=hlts _ m3;omega
  ·have:=hlts _ m4;omega
 ·simp at hq;rcases hq with rfl|rfl|rfl
  ·simp
  ·simp[m1]
  ·simp[m2]
 ·simp at hq;rcases hq with rfl|rfl|rfl
  ·exact .inr hql
  ·exact .inl (by simp[m3])
  ·exact .inl (by simp[m4])
 ·simp at hq hq2;have g1:=hlts _ m1;have g2:=hlts _ m2
  rcases hq with rfl|rfl|rfl<;>rcases hq2 with e|e|e
  ·omega
  ·exact h4 (e▸m3)
  ·exact h4 (e▸m4)
  ·omega
  ·exact hne.1 e
  ·exact hne.2.1 e
  ·omega
  ·exact hne.2.2.1 e
  ·exact hne.2.2.2 e
 ·simp at hq;rcases hq with rfl|rfl
  ·simp
  ·simp[aW]
end
end
section
variable {w : World} {jb qb rb sb : Nat} {b k : Int} {val : Nat -> Value} {ids : List Nat}
def Vh (w:World)(p:Addr):Nat:=match w.cell? p with|some (.int _ n)=>n.toNat|_=>0
def Fy (sb qb:Nat)(w:World):Nat:=Vh w ⟨sb,5,none⟩+Vh w ⟨qb,2,none⟩
theorem eH.meas {c:Nat}(h:eH w sb qb rb jb k (c:Int) val ids):Fy sb qb w=c+ids.length:=by
 obtain⟨s,h1⟩:=h.blk;obtain⟨ring,first,h2⟩:=h.Em;have c5:=aj.cell h1 5;have c2:=h2.blk.cell 2;simp only[gl]at c5 c2;unfold Fy Vh;rw[c5,c2];simp
theorem sK (h:eH w sb qb rb jb k b val ids):w.cell? ⟨sb,3,none⟩=some (pQ qb)/\w.cell? ⟨sb,4,none⟩=some (.map (some jb)):=by
 obtain⟨s,h1⟩:=h.blk;exact⟨aj.cell h1 3,aj.cell h1 4⟩
theorem eH.head {id:Nat}(h:eH w sb qb rb jb k b val (id::ids)):Calls Tryz.prog 213 #[pQ qb] w λe w'=>e= .returned (.tuple #[nI id,.bool true])/\w.drew=w':=by
 obtain⟨ring,first,h2⟩:=h.Em
 exact U6 qb rb ring first id ids w h2
theorem eH.adi (h:eH w sb qb rb jb k b val []):Calls Tryz.prog 213 #[pQ qb] w λe w'=>e= .returned (.tuple #[.int .i64 0,.bool false])/\w=w':=by
 obtain⟨ring,first,h2⟩:=h.Em
 exact NK qb rb ring first [] w h2
theorem eH.balance (h:eH w sb qb rb jb k b val ids):Calls Tryz.prog 214 #[.pointer (some ⟨sb,5,none⟩)] w λe w'=>e= .returned (.int .i64 b)/\w=w':=by
 obtain⟨s,h1⟩:=h.blk;exact KP sb b w h1
theorem Et {W0:World}{E:Nat->Addr}{P:MP}{α:Type}{jt:Nat->TypeId}{ja:Nat->Addr}{At:World->List Nat->α->Prop}{can:α->Nat->Prop}{left:α->Nat->Nat}{Stp:α->Nat->α->Prop}(HP:jk W0 E P jt ja At can left Stp)(s:SP)(F:List Nat)(c0:Nat)(hc:c0<=64)(ids:List Nat)(a:α)(x:bS)(hval:∀id,s.val id= .iface (jt id) (.pointer (some (ja id))))(hcan:∀id∈ids,can a id/\id<=1000)(w:World)(h:bH W0 E P At s w F w (c0:Int) ids a F x):
  Calls Tryz.prog 175 #[fD s.sb,nX P] w λe w'=>∃A cc ended aL a' F' x' b',e= .returned (.slice A ended.length cc)/\w'.ownsRow w.heap.size 3 1 (.slice A ended.length cc) ended.length (dK ended)/\tY left Stp c0 ids a ended aL a'/\bH W0 E P At s w F w' b' aL a' F' x'/\dU x x' 0 c0/\oN P s F' (.slice A ended.length cc):=by
 have hval:=qd hval;have hlen:=qd h.aF.many;have H0:=qd h;have Hw:=qd hcan;obtain⟨F0,MI⟩:∃F0,F0=F:=⟨_,rfl⟩;unfold fD nX;clear h hcan;rw[<-MI]at H0|-;clear MI;go_in;go_wp2;go_loopw [5,6,7] (λv5 _ _ wr=>∃(c:Nat) (bZ e1:List Nat) (a1:α) (F1:List Nat) (x1:bS) (u:Nat),Hqq (bH W0 E P At s w F0 wr (c:Int) bZ a1 F1 x1)/\wr.ownsRow w.heap.size 3 1 v5 e1.length (dK e1)/\Hqq (∀e aL a',tY left Stp c bZ a1 e aL a'->tY left Stp c0 ids a (e1++e) aL a')/\(u+c=c0/\e1.length+bZ.length=ids.length)/\(∀id∈bZ,can a1 id/\id<=1000)/\dU x x1 0 u/\Hqq (oN P s F1 v5)) (λ_ _ _ wr=>Fy s.sb s.qb wr)
 case atStart=>exact⟨c0,ids,[],a,F0,x,0,H0,⟨rfl,.inl ⟨rfl,rfl⟩⟩,qd (λ_ _ _ h=>h),⟨by omega,by simp⟩,Hw.o,dU.refl x,qd (λg hg=>by cases hg)⟩
 case round=>
  obtain⟨c,bZ,e1,a1,F1,x1,u,HS,hO,hK,hu,hcan,hCo,Tk⟩:=hrel;obtain⟨A,vc,rfl⟩:=bq hO;have hE1:=HS.o.aF.many;have HM0:=qd HS.o.aF.meas;obtain⟨hu,hE2⟩:=hu;rcases bZ with _|⟨id,bZ⟩
  ·have HH:=qd HS.o.aF.adi;have HF:=qd (hK.o _ _ _ (tY.nil c a1));have HO:=qd hO;have HC:=qd hCo
   have hu2:u<=c0:=by omega
   obtain⟨Gp,Gq⟩:=sK HS.o.aF;clear hO hCo hcan;go_wp2_with fail;refine HH.o.mono ?_;rintro x w1 ⟨rfl,rfl⟩;go_wp2;go_ret;exact⟨A,vc,e1,[],a1,F1,x1,_,rfl,HO.o,by simpa using HF.o,HS.o,HC.o.mono (zb _) hu2,Tk.o⟩
  ·have HH:=qd HS.o.aF.head;obtain⟨Gp,Gq⟩:=sK HS.o.aF;have HO:=qd hO;have HC:=qd hCo;have Vi:=qd hcan;have hlo:=hO.lt;clear hO hCo hcan;go_wp2_with fail;refine HH.o.mono ?_;rintro x w1 ⟨rfl,hdr⟩;have hb1:Below wr.heap.size wr w1:=hdr▸(Below.refl _ _).drew;clear hdr;replace HS:=qd (HS.o.below HP hb1);replace HO:=qB hb1 HO;clear Gp Gq HH;obtain⟨Gp,Gq⟩:=sK HS.o.aF;have HB:=qd HS.o.aF.balance;go_wp2_with fail;refine HB.o.mono ?_;rintro x w2 ⟨rfl,rfl⟩;rcases c with _|c
   ·have HF:=qd (hK.o _ _ _ (tY.broke (id::bZ) a1))
    have hu2:u<=c0:=by omega
    clear hK HB;simp only[Int.ofNat_zero]at*;go_wp2;go_ret;exact⟨A,vc,e1,_,a1,F1,x1,_,rfl,HO.o,by simpa using HF.o,HS.o,HC.o.mono (zb _) hu2,Tk.o⟩
   ·have hc0:¬((c+1:Nat):Int)=0:=by omega
    have nY:=Vi.o id (by simp);have hl:=HP.xY HS.o.pool nY.1;have HJ:=qd (HP.P5 nY.1);obtain⟨Fl,zi⟩:∃Fl,Fl=jW (jt id):=⟨_,rfl⟩;rw[<-zi]at hl;have MJ:=qd zi.symm;have HL:=qd hl;have oZ:=qd (zf id nY.2);have oG:=qd HS.o.aF.map;have HV:=qd (show jX s.val (id::bZ) (id:Int)=some (.iface (jt id) (.pointer (some (ja id))))from by rw[ze (by simp),hval.o]);have hle:=HP.le HS.o.pool nY.1;have JH:=qd nY;obtain⟨lf,hlf⟩:∃lf,lf=left a1 id:=⟨_,rfl⟩;rw[<-hlf]at HL hle;have jQ:=qd hlf;clear hl zi nY HB hlf;go_wp2_with (at_lookup;refine xW rfl _ _ rfl rfl oG.o _ rfl oZ.o _ HV.o ?_);rw[sH HJ.o,x8,sI HJ.o];rw[show jW (jt id)=Fl from MJ.o];rw[Kb];refine HL.o.mono ?_;rintro x w3 ⟨rfl,hb3⟩;replace HS:=qd (HS.o.below HP hb3);replace HO:=qB hb3 HO;replace oG:=qd HS.o.aF.map;have agb:=HS.o.size;clear HL Gp Gq hb3 MJ;obtain⟨Gp,Gq⟩:=sK HS.o.aF;rcases kj lf with h0|h1
    ·subst h0;have P9:=qd (show left a1 id=0 from jQ.o.symm);have HR:=qd (Ct HP s F0 F1 ((c+1:Nat):Int) (id::bZ) a1 x1 id (by simp) JH.o.2 w3 HS.o);simp only[List.erase_cons_head]at HR;simp only[Int.ofNat_zero]at*;go_wp2_with fail;refine HR.o.mono ?_;rintro x w4 ⟨rfl,hs4,dO⟩;have hO4:=kG HO.o dO (λg hg hq=>Tk.o g hg (by simp[hq]));have hz4:=dO.size;clear dO HS HO HR Gp Gq oG;have agh:=hs4.size;have Xw:=qd hs4;clear hs4
     have ael:e1.length+1<=100:=by have:=hlen.o;omega
     go_wp2_with (at_builtin;refine gD rfl rfl za hO4 rfl rfl rfl rfl rfl (by omega) (by omega) ?_;intro v4 w5 dM iP;obtain⟨A4,c4,rfl⟩:=bq dM);obtain⟨hs5,agp⟩:=Xw.o.app HP hO4 (zb _) Tk.o iP;go_roundw
     case rel=>exact⟨c+1,bZ,e1++[id],a1,F1,x1,u,qd hs5,by simpa[dK]using dM,qd (λe aL a' hh=>by rw[qe];exact hK.o _ _ _ (.ended P9.o hh)),⟨by omega,by simp at hE2|-;omega⟩,λi hi=>Vi.o i (by simp[hi]),HC.o,qd (by simpa using agp)⟩
     case measure=>
      rw[hs5.aF.meas,HM0.o];simp
    ·have hl1:¬(lf:Int)<1:=by omega
     have iV:=qd (P6 HP s F0 F1 c (by omega) (id::bZ) a1 x1 id JH.o.1 (by rw[<-jQ.o];exact h1) w3 HS.o);unfold nX at iV;go_wp2_with (at_lookup;refine xW rfl _ _ rfl rfl oG.o _ rfl oZ.o _ HV.o ?_);refine iV.o.mono ?_;rintro x w4 ⟨rfl,a2,F2,x2,hst,hco,hs4,hF2,dO⟩;have hO4:=kG HO.o dO Tk.o;have aem:=Tk.o.step HO.o hF2;have Hy:=qd (And.intro hs4 (And.intro hO4 (And.intro aem (And.intro hst hco))));have hz4:=dO.size;clear hs4 hO4 aem hst hco dO hF2;go_wp2;go_roundw
     case rel=>exact⟨c,id::bZ,e1,a2,F2,x2,u+1,qd Hy.o.1,Hy.o.2.1,qd (λe aL a' hh=>hK.o _ _ _ (.step (by rw[<-jQ.o];exact h1) Hy.o.2.2.2.1 hh)),⟨by omega,by omega⟩,λi hi=>⟨HP.jL Hy.o.2.2.2.1 (Vi.o i hi).1,(Vi.o i hi).2⟩,(HC.o.trans Hy.o.2.2.2.2).mono (by omega) (by omega),qd Hy.o.2.2.1⟩
     case measure=>
      rw[Hy.o.1.aF.meas,HM0.o];omega
end
