/- A node's other operations, told of its entries and its job. -/
import Derived.Test.YtgkeameopnpinaaGreatDoorCoCC
import Derived.Test.YtgkeameopnpinaaGreatDoorLaneP
import Derived.Test.YtgkeameopnpinaaGreatDoorCoBU
import Derived.Test.YtgkeameopnpinaaGreatDoorSqM
namespace Go.Proofs.YtgkeameopnpinaaGreatDoor
set_option maxRecDepth 100000
set_option maxHeartbeats 4000000
open Go.RowKit bY
section
variable {a b f : av} {l' : List av} {o : Option av} {Ts : List aB}
def fK (f:av)(l:List av):Option av→Prop
 |none=>∀e∈l,bB e f=true
 |some m=>m∈l∧bB m f=false∧∀e∈l,bB e f=false→bB e m=false
theorem FX {c:av}(h:bB a b=true)(k:bB b c=true):bB a c=true:=by
 simp[bB]at*;omega
theorem yt (a:av):bB a a=false:=by simp[bB]
theorem Mk {l:List av}(h:fK f l o)(e:av):fK f (l++[e]) (mg f o e):=by
 unfold mg
 cases hl:bB e f with
 |true=>
  simp only[Bool.not_true,Bool.false_and,Bool.false_eq_true,if_false]
  cases o with
  |none=>
   intro x hx;rcases List.mem_append.1 hx with h1|h1
   ·exact h x h1
   ·simp at h1;subst h1;exact hl
  |some m=>
   refine⟨List.mem_append_left _ h.1,h.2.1,fun x hx jJ=> ?_⟩;rcases List.mem_append.1 hx with h1|h1
   ·exact h.2.2 x h1 jJ
   ·simp at h1;subst h1;rw[hl]at jJ;cases jJ
 |false=>
  cases o with
  |none=>
   simp only[Bool.not_false,Bool.true_and,if_true];refine⟨by simp,hl,fun x hx jJ=> ?_⟩;rcases List.mem_append.1 hx with h1|h1
   ·rw[h x h1]at jJ;cases jJ
   ·simp at h1;subst h1;exact yt _
  |some m=>
   simp only[Bool.not_false,Bool.true_and]
   cases hm:bB e m with
   |true=>
    rw[if_pos rfl];refine⟨by simp,hl,fun x hx jJ=> ?_⟩;rcases List.mem_append.1 hx with h1|h1
    ·cases hxe:bB x e with
     |false=>rfl
     |true=>have:=h.2.2 x h1 jJ;rw[FX hxe hm]at this;cases this
    ·simp at h1;subst h1;exact yt _
   |false=>
    rw[if_neg (by simp)];refine⟨List.mem_append_left _ h.1,h.2.1,fun x hx jJ=> ?_⟩;rcases List.mem_append.1 hx with h1|h1
    ·exact h.2.2 x h1 jJ
    ·simp at h1;subst h1;exact hm
theorem BQ (f:av):∀(es l:List av) (o:Option av),fK f l o→fK f (l++es) (dL f o es)
 | [],l,o,h=>by simpa[dL]using h
 |e::es,l,o,h=>by
  have:=BQ f es (l++[e]) _ (Mk h e);simpa[dL]using this
theorem Jv (f:av)(es:List av):fK f es (dL f none es):=by
 have:=BQ f es [] none (by intro e he;cases he);simpa using this
theorem Km {l:List av}{o':Option av}(h:fK f l o)(h':fK f l' o'):fK f (l++l') (qW o o'):=by
 unfold qW
 cases o' with
 |none=>
  cases o with
  |none=>
   intro x hx;rcases List.mem_append.1 hx with h1|h1
   ·exact h x h1
   ·exact h' x h1
  |some m=>
   refine⟨List.mem_append_left _ h.1,h.2.1,fun x hx jJ=> ?_⟩;rcases List.mem_append.1 hx with h1|h1
   ·exact h.2.2 x h1 jJ
   ·rw[h' x h1]at jJ;cases jJ
 |some e=>
  cases o with
  |none=>
   refine⟨List.mem_append_right _ h'.1,h'.2.1,fun x hx jJ=> ?_⟩;rcases List.mem_append.1 hx with h1|h1
   ·rw[h x h1]at jJ;cases jJ
   ·exact h'.2.2 x h1 jJ
  |some m=>
   simp only
   cases hm:bB e m with
   |true=>
    rw[if_pos rfl];refine⟨List.mem_append_right _ h'.1,h'.2.1,fun x hx jJ=> ?_⟩;rcases List.mem_append.1 hx with h1|h1
    ·cases hxe:bB x e with
     |false=>rfl
     |true=>have:=h.2.2 x h1 jJ;rw[FX hxe hm]at this;cases this
    ·exact h'.2.2 x h1 jJ
   |false=>
    rw[if_neg (by simp)];refine⟨List.mem_append_left _ h.1,h.2.1,fun x hx jJ=> ?_⟩;rcases List.mem_append.1 hx with h1|h1
    ·exact h.2.2 x h1 jJ
    ·cases hxm:bB x m with
     |false=>rfl
     |true=>
      have h2:=h'.2.2 x h1 jJ
      have:bB e m=true:=by
       simp[bB]at*;omega
      rw[hm]at this;cases this
theorem Az (f:av):∀(Ts:List aB) (l:List av) (o:Option av),fK f l o→fK f (l++cK Ts) (Ts.foldl (fun o T=>qW o (dL f none (aL T.gs))) o)
 | [],l,o,h=>by simpa[cK]using h
 |T::Ts,l,o,h=>by
  have:=Az f Ts (l++aL T.gs) _ (Km h (Jv f (aL T.gs)));simpa[cK]using this
theorem FY (f:av)(Ts:List aB):fK f (cK Ts) (fJ f Ts):=by
 have:=Az f Ts [] none (by intro e he;cases he);simpa[fJ]using this
theorem gP.snoc {w:World}{bs:List (Nat×Nat)}{ob og:Nat}{T:aB}(h:gP w bs Ts)(hT:TabAt w ob og T)(h1:ob∉fE bs)(h2:og∉fE bs):gP w (bs++[(ob,og)]) (Ts++[T]):=by
 have hcase:∀(i:Nat) (b:Nat×Nat),(bs++[(ob,og)])[i]?=some b→bs[i]?=some b∨(i=bs.length∧b=(ob,og)):=fun i b hb=>by
  by_cases hi:i<bs.length
  ·rw[List.getElem?_append_left hi]at hb;exact .inl hb
  ·rw[List.getElem?_append_right (by omega)]at hb
   have h0:i-bs.length=0:=by
    have:=(List.getElem?_eq_some_iff.1 hb).1;simp at this;omega
   rw[h0]at hb;simp at hb;exact .inr ⟨by omega,hb.symm⟩
 refine⟨by simp[h.len],fun i b X hb hX=> ?_,fun i j b c hb hc hij=> ?_⟩
 ·rcases hcase i b hb with h3|⟨rfl,rfl⟩
  ·rw[List.getElem?_append_left (by rw[←h.len];exact(List.getElem?_eq_some_iff.1 h3).1)]at hX;exact h.at_ i b X h3 hX
  ·rw[h.len,List.getElem?_append_right (Nat.le_refl _),Nat.sub_self]at hX;cases hX;exact hT
 ·have hf:∀b∈bs,b.1≠ob∧b.1≠og∧b.2≠ob∧b.2≠og:=fun b hb=>
   ⟨fun e=>h1 (e▸dJ.2 ⟨b,hb,.inl rfl⟩),fun e=>h2 (e▸dJ.2 ⟨b,hb,.inl rfl⟩),fun e=>h1 (e▸dJ.2 ⟨b,hb,.inr rfl⟩),fun e=>h2 (e▸dJ.2 ⟨b,hb,.inr rfl⟩)⟩
  rcases hcase i b hb with h3|⟨rfl,rfl⟩<;>rcases hcase j c hc with h4|⟨rfl,rfl⟩
  ·exact h.ne i j b c h3 h4 hij
  ·exact hf b (List.mem_of_getElem? h3)
  ·obtain⟨a1,a2,a3,a4⟩:=hf c (List.mem_of_getElem? h4);exact⟨a1.symm,a3.symm,a2.symm,a4.symm⟩
  ·exact absurd rfl hij
theorem aaR (d d' h:Nat):dx 1 d h=dx 1 d' h:=by unfold dx;rw[if_pos rfl,if_pos rfl]
theorem WT (d d':Nat):sG 1 d=sG 1 d':=by funext st e;unfold sG;rw[aaR d d']
theorem TK (d d':Nat):∀(es:List av) (Ts:List aB),Fits 1 d Ts es→Fits 1 d' Ts es
 | [],_,_=>trivial
 |e::es,Ts,h=>by
  unfold Fits at h⊢;rw[aaR d' d];exact⟨h.1,TK d d' es _ h.2⟩
theorem WU {N:Nd}{es:List av}(h:Fits N.many N.au Ts es):Fits N.many N.dep Ts es:=by
 unfold Nd.dep;split
 ·next h1=>rw[h1]at h⊢;exact TK _ _ _ _ h
 ·exact h
theorem TL (N:Nd)(st:bI×List aB)(es:List av):dZ N.many N.dep st es=dZ N.many N.au st es:=by
 unfold Nd.dep;split
 ·next h1=>rw[h1];unfold dZ;rw[WT]
 ·rfl
section
variable {W0 : World} {E : Nat → Addr} {H : Nat → Nat} {nb : Nat} {F : List Nat} {N : Nd} {P : MP} {x : bI} {w : World}
theorem aaS (h:bG w nb F N):∃tb dv,aj w nb 173 (ko N tb dv):=by
 unfold bG at h;split at h
 ·obtain⟨tb,gb,h1,_⟩:=h;exact⟨_,_,h1⟩
 ·obtain⟨db,rb,cap,ob,og,bl,h1,_⟩:=h;exact⟨_,_,h1⟩
 ·obtain⟨db,rb,cap,ob,og,fb,bU,eb,vb,bX,bF,bs,h1,_⟩:=h;exact⟨_,_,h1⟩
theorem Jw (h:bG w nb F N):Calls Tryz.prog 150 #[aK nb] w fun e w'=>e= .returned (.tuple #[nI N.pfx,nI N.au])∧w.drew=w':=by
 obtain⟨tb,dv,hb⟩:=aaS h;exact NS nb tb N.pfx N.au N.kind dv w hb
theorem ZH (h:bG w nb F N)(ho:dO H N):Calls Tryz.prog 282 #[aK nb] w fun e w'=>e= .returned (nI N.left)∧Below w.heap.size w w':=by
 have hl:=ho.pw.le;have cZ:=ho.ph;unfold kX at cZ;unfold bG at h;unfold Nd.left
 cases hp:N.ph with
 |idle=>
  rw[hp]at h;obtain⟨tb,gb,h1,_⟩:=h;exact(Kg nb tb N.pfx N.au N.kind w h1).mono fun e w' ⟨a,b⟩=>⟨a,b▸Below.refl _ _⟩
 |mZ k=>
  rw[hp]at h;obtain⟨db,rb,cap,ob,og,bl,h1,h2,h3,_⟩:=h;have:=J3 db rb cap ob og bl N.T N.each N.dep k w h2 hl;rw[h3]at this;exact yX nb ob db N.pfx N.au N.kind _ (fun V V'=>Below V.heap.size V V') w h1 this
 |iN Ts next=>
  rw[hp]at h cZ;obtain⟨db,rb,cap,ob,og,fb,bU,eb,vb,bX,bF,bs,h1,h2,h3,_⟩:=h
  have:=pq db rb cap ob og fb bU eb vb bX bF bs N.T Ts N.each N.dep next w h2 hl cZ.2.1
  exact(yX nb ob db N.pfx N.au N.kind _ (fun V V'=>V.drew=V') w h1 this).mono fun e w' ⟨a,b⟩=>⟨a,b▸(Below.refl _ _).drew⟩
theorem Kn (gl:Nat)(h:bG w nb F N)(hb:N.ph.busy=true):Calls Tryz.prog 130 #[aK nb,nI gl] w fun e w'=>e= .returned (.tuple #[.int .i64 0,.bool false])∧Below w.heap.size w w':=by
 unfold bG at h
 cases hp:N.ph with
 |idle=>rw[hp]at hb;cases hb
 |mZ k=>
  rw[hp]at h;obtain⟨db,rb,cap,ob,og,bl,h1,_⟩:=h;exact(xD nb ob db N.pfx N.au N.kind gl w h1).mono fun e w' ⟨a,b⟩=>⟨a,b▸Below.refl _ _⟩
 |iN Ts next=>
  rw[hp]at h;obtain⟨db,rb,cap,ob,og,fb,bU,eb,vb,bX,bF,bs,h1,_⟩:=h;exact(xD nb ob db N.pfx N.au N.kind gl w h1).mono fun e w' ⟨a,b⟩=>⟨a,b▸Below.refl _ _⟩
theorem Ko (gl:Nat)(h:bG w nb F N)(ho:dO H N)(hi:N.ph= .idle):Calls Tryz.prog 130 #[aK nb,nI gl] w fun e w'=>e= .returned (.tuple #[.int .i64 ((iY N.T.live N.T.bS N.len N.au gl:Nat):Int),.bool (eG N.T.live N.T.bS N.len N.au gl)])∧Below w.heap.size w w':=by
 unfold bG at h;rw[hi]at h;obtain⟨tb,gb,h1,h2,_⟩:=h;exact GX nb tb gb N.au gl N.pfx N.kind N.T w h1 h2 ho.tg.ok
theorem WV (gl kind:Nat)(hgl:gl≤5)(h:bG w nb F N)(ho:dO H N)(hi:N.ph= .idle)(hk:iY N.T.live N.T.bS N.len N.au gl=kind)(h0:kind≠0):Calls Tryz.prog 133 #[aK nb,nI kind] w fun e w'=>e= .returned .nilIface∧∃F',bG w' nb F' (N.start kind)∧(∀q∈F',q∈F∨w.heap.size≤q)∧Mod [nb] w w':=by
 obtain⟨hs,_⟩:=LV ho hi hgl hk h0;have cZ:=hs.ph;have hK:jB (N.start kind):=cZ.1;obtain⟨k1,k2,k3,k4,k5⟩:=iO (N:=N.start kind) ho.pw hK;have hd:=ho.deep
 have hd':N.au<5∨(N.start kind).many=1∧N.au≤5:=by
  rcases hK with h1|h1|h1
  ·exact .inr ⟨by unfold Nd.many;rw[h1];rfl,hd⟩
  ·exact .inr ⟨by unfold Nd.many;rw[h1.1];rfl,hd⟩
  ·exact .inl h1.2.2
 unfold bG at h;rw[hi]at h;obtain⟨tb,gb,h1,h2,rfl,h3,h4⟩:=h;refine(QF nb tb gb kind (N.start kind).each (N.start kind).many N.au N.pfx N.kind N.T hd' w h1 h2 ho.tg.ok k1 k5 h3 h4).mono ?_;rintro e w' ⟨rfl,db,hb,⟨rb,cap,bl,l1,l2,l3,l4,oP⟩,hm⟩;have hnl:=h1.lt;refine⟨rfl,nb::bD db rb tb gb bl, ?_,fun q hq=> ?_,hm⟩
 ·unfold bG;show∃db rb cap ob og bl,_;refine⟨db,rb,cap,tb,gb,bl,hb,oP,l4,rfl,fun hh=> ?_⟩;simp only[bD,List.mem_cons]at hh;rcases hh with e|e|e|e|e
  ·omega
  ·omega
  ·exact h3 e
  ·exact h4 e
  ·have:=l3 nb e;omega
 ·simp only[bD,List.mem_cons]at hq;rcases hq with e|e|e|e|e|e
  ·exact .inl (by simp[e])
  ·exact .inr (by omega)
  ·exact .inr (by omega)
  ·exact .inl (by simp[e])
  ·exact .inl (by simp[e])
  ·exact .inr (l3 q e)
theorem WW (key hash:Nat)(h:bG w nb F N)(ho:dO H N)(hM:aM w P x)(hE:Env W0 E w)(hb0:W0.heap.size≤P.mb)(hF:P.mb∉F):
  Calls Tryz.prog 147 #[aK nb,aG (some ⟨P.mb,P.mo,none⟩) cP,nU hash,nU key] w fun e w'=>∃o x',e= .returned (eO o)∧fK ⟨key,0,hash⟩ N.ents o∧aM w' P x'∧dI x x' 192 0∧Mod [P.mb] w w':=by
 have hl:=ho.pw.le;have cZ:=ho.ph;unfold kX at cZ;unfold bG at h
 have fin:∀(w':World) (n:Nat),Through (fun V V'=>aM V' P (x.add cP n)∧Mod [P.mb] V V') w w'→n≤192→∃x',aM w' P x'∧dI x x' 192 0∧Mod [P.mb] w w':=fun w' n ht hn=>by
  obtain⟨h1,h2⟩:=ht.out (by simpa using hM.lt) (fun V' g hg hR hm=>hR.mod hm (by have:=hM.lt;simp;omega));exact⟨_,h1,(wu x n).mono hn (Nat.le_refl _),h2⟩
 cases hp:N.ph with
 |idle=>
  rw[hp]at h;obtain⟨tb,gb,h1,h2,rfl,h3,h4⟩:=h
  have hE':N.ents=aL N.T.gs:=by unfold Nd.ents;rw[hp];rfl
  refine(GR nb tb N.pfx N.au N.kind hash key P cP ((dL ⟨key,0,hash⟩ none (aL N.T.gs)).getD ⟨0,0,0⟩) (dL ⟨key,0,hash⟩ none (aL N.T.gs)).isSome [P.mb] (fun V V'=>aM V' P (x.add cP N.T.gs.length)∧Mod [P.mb] V V') w h1 (by simpa using hM.lt) fun V hV=> ?_).mono fun e w' ⟨a,b⟩=> ?_
  ·exact(Dv tb gb N.T P x cP hash key hl V (h2.below hV) (hM.below hV) (hE.next hV) (fun e=>hF (by simp[e])) (fun e=>hF (by simp[e])) hb0).mono fun e V' ⟨a,b,c⟩=>⟨a,c,b,c⟩
  ·obtain⟨x',c,d⟩:=fin w' _ b (by unfold Nd.len at hl;omega);exact⟨_,x',a,by rw[hE'];exact Jv _ _,c,d⟩
 |mZ k=>
  rw[hp]at h;obtain⟨db,rb,cap,ob,og,bl,h1,h2,h3,rfl,h4⟩:=h
  have hE':N.ents=cK [N.T]:=by unfold Nd.ents;rw[hp];simp[y5,cK]
  have mY:P.mb≠ob:=fun e=>hF (by simp[bD,e]);have hog:P.mb≠og:=fun e=>hF (by simp[bD,e]);refine(xC nb ob db N.pfx N.au N.kind hash key P cP ((fJ ⟨key,0,hash⟩ [N.T]).getD ⟨0,0,0⟩) (fJ ⟨key,0,hash⟩ [N.T]).isSome [P.mb] (fun V V'=>aM V' P (x.add cP (qX [N.T]))∧Mod [P.mb] V V') w h1 (by simpa using hM.lt) fun V hV=> ?_).mono fun e w' ⟨a,b⟩=> ?_
  ·have h2':=h2.mod (Mod.of_below hV []) (by simp)
   have hts:gP V [(ob,og)] [N.T]:=by
    have:=(gP.mk (w:=V) (bs:=[]) (Ts:=[]) rfl (fun j b T hb=>by simp at hb) (fun i j b c hb=>by simp at hb)).snoc h2'.tab (by simp[fE]) (by simp[fE]);simpa using this
   exact(FH db ob 0 none [] (by simp) _ _ _ _ [(ob,og)] [N.T] P x cP hash key V h2'.blk ⟨by simp[ptrs],fun hh=>by simp at hh⟩ rfl hts (fun T hT=>by simp at hT;subst hT;exact hl) (hM.below hV) (hE.next hV) hb0 (fun b hb=>by simp at hb;subst hb;exact⟨mY,hog⟩)).mono fun e V' ⟨a,b,c⟩=>⟨a,c,b,c⟩
  ·obtain⟨x',c,d⟩:=fin w' _ b (by unfold qX;unfold Nd.len at hl;simp;omega);exact⟨_,x',a,by rw[hE'];exact FY _ _,c,d⟩
 |iN Ts next=>
  rw[hp]at h cZ;obtain⟨db,rb,cap,ob,og,fb,bU,eb,vb,bX,bF,bs,h1,h2,h3,rfl,h4⟩:=h;obtain⟨g1,g2,g3,g4,g5⟩:=cZ;obtain⟨k1,k2,k3,k4,_⟩:=iO ho.pw g1
  have hE':N.ents=cK (Ts++[N.T]):=by unfold Nd.ents;rw[hp];simp[y5,cK]
  have hg:∀T∈Ts++[N.T],T.gs.length≤64:=fun T hT=>by
   rcases List.mem_append.1 hT with h5|h5
   ·obtain⟨j,hj⟩:=List.getElem?_of_mem h5;rw[(g3.tg j T hj).2];exact k1.le
   ·simp at h5;subst h5;exact hl
  have hsum:∀l:List aB,(∀T∈l,T.gs.length≤64)→qX l≤64*l.length:=fun l=>by
   induction l with
   |nil=>intro _;simp[qX]
   |cons T l ih=>
    intro hh;have h6:=ih (fun X hX=>hh X (by simp[hX]));have h7:=hh T (by simp);unfold qX at h6⊢;simp only[List.map_cons,List.sum_cons,List.length_cons];omega
  have hs:=hsum _ hg;have hlen:=g3.len;rw[List.length_append,List.length_singleton,hlen]at hs;refine(xC nb ob db N.pfx N.au N.kind hash key P cP ((fJ ⟨key,0,hash⟩ (Ts++[N.T])).getD ⟨0,0,0⟩) (fJ ⟨key,0,hash⟩ (Ts++[N.T])).isSome [P.mb] (fun V V'=>aM V' P (x.add cP (qX (Ts++[N.T])))∧Mod [P.mb] V V') w h1 (by simpa using hM.lt) fun V hV=> ?_).mono fun e w' ⟨a,b⟩=> ?_
  ·have h2':=h2.mod (Mod.of_below hV []) (by simp);have hnd:=h2.nd;unfold aU at hnd;simp only[List.nodup_cons,List.mem_cons,List.mem_append,not_or]at hnd;obtain⟨_,_,_,_,_,⟨_,_,f8⟩,⟨_,g8⟩,_⟩:=hnd;have hts:=h2'.tabs.snoc h2'.tab f8 g8
   exact(FH db ob bU (some ⟨fb,0,none⟩) (bs.map Prod.fst) (by rw[List.length_map];omega) _ _ _ _ (bs++[(ob,og)]) (Ts++[N.T]) P x cP hash key V (by rw[List.length_map];exact h2'.blk) (eU.reads h2'.fresh) (by simp) hts hg (hM.below hV) (hE.next hV) hb0 (fun b hb=>by
    rcases List.mem_append.1 hb with h5|h5
    ·obtain⟨m1,m2⟩:=gT (db:=db) (rb:=rb) (fb:=fb) (eb:=eb) (vb:=vb) (ob:=ob) (og:=og) (bF:=bF) h5;exact⟨fun e=>hF (by rw[e];simp[m1]),fun e=>hF (by rw[e];simp[m2])⟩
    ·simp at h5;subst h5
     exact⟨fun e=>hF (by simp[aU,e]),fun e=>hF (by simp[aU,e])⟩)).mono fun e V' ⟨a,b,c⟩=>⟨a,c,b,c⟩
  ·obtain⟨x',c,d⟩:=fin w' _ b (by omega);exact⟨_,x',a,by rw[hE'];exact FY _ _,c,d⟩
theorem O8 {α:Type}{l:List α}(h:l.length=2):∃a b,l=[a,b]:=by
 match l,h with
 | [a,b],_=>exact⟨a,b,rfl⟩
theorem BR {nb tb db:Nat}{pfx au job:Int}{R:World→Prop}(h:aj w nb 173 #[.int .i64 pfx,.int .i64 au,pQ tb,.int .i64 job,pQ db])(hc:Calls Tryz.prog 284 #[bT db,.pointer (some ⟨P.mb,P.mo,none⟩)] w fun e w'=>e= .returned (.bool true)∧R w'):
  Calls Tryz.prog 283 #[aK nb,.pointer (some ⟨P.mb,P.mo,none⟩)] w fun e w'=>e= .returned (.bool true)∧R w':=GV nb tb db pfx au job P (fun _ V'=>R V') w h hc
theorem ZI (h:bG w nb F N)(ho:dO H N)(hl:1≤N.left)(hM:aM w P x)(hE:Env W0 E w)(hb0:W0.heap.size≤P.mb)(hF:P.mb∉F)(Yo:∀q∈F,W0.heap.size≤q):
  Calls Tryz.prog 283 #[aK nb,lT P] w fun e w'=>e= .returned (.bool true)∧∃F' x',bG w' nb F' N.step∧(∀q∈F',q∈F∨w.heap.size≤q)∧aM w' P x'∧dI x x' 0 1∧Mod (P.mb::F) w w':=by
 have hL:=qm N
 have QE:N.step.dep=N.dep:=by unfold Nd.dep;rw[hL.many,hL.au]
 have hcells:∀tb dv,ko N.step tb dv=ko N tb dv:=fun tb dv=>by unfold ko;rw[hL.pfx,hL.au,hL.kind]
 have cZ:=ho.ph;unfold kX at cZ;unfold bG at h
 cases hp:N.ph with
 |idle=>unfold Nd.left at hl;rw[hp]at hl;simp at hl
 |mZ k=>
  rw[hp]at h cZ;obtain⟨db,rb,cap,ob,og,bl,h1,h2,h3,rfl,h4⟩:=h;simp only[List.mem_cons,not_or]at hF;have hst:=J8 db rb cap ob og bl N.T N.each N.dep k P x w h2 hM hE hF.2 hb0 (fun q hq=>Yo q (by simp[hq]));refine(BR h1 hst).mono ?_;rintro e w' ⟨rfl,hM',hm,hif⟩;have KC:dI x ((x.add cV 1).add (cU 1) 1) 0 1:=(Mj x 1).trans (rD _ 1)
  have hnb:nb∉P.mb::bD db rb ob og bl:=by simp only[List.mem_cons,not_or];exact⟨fun e=>hF.1 e.symm,h4⟩
  have hblk:=h1.mod hm hnb
  have hmod:Mod (P.mb::nb::bD db rb ob og bl) w w':=hm.more (fun q hq=>by
   rcases List.mem_cons.1 hq with e|e
   ·simp[e]
   ·simp[e])
  by_cases hk:k+1=N.each*N.many
  ·have hP:N.step.ph= .iN (List.replicate N.many (dN N.each N.each)) 0:=by unfold Nd.step;rw[hp];simp only;rw[if_pos hk]
   have hT:N.step.T=N.T:=by unfold Nd.step;rw[hp]
   rw[if_pos (by rw[h3];exact hk)]at hif;obtain⟨fb,bU,eb,vb,bX,oP,l1,l2,l3⟩:=hif;have hnl:=h1.lt
   have hin:∀q,q∈aU db rb fb eb vb ob og (bl.map fun b=>b.1) (gQ bl)→q∈bD db rb ob og bl∨w.heap.size≤q:=fun q hq=>by
    unfold aU at hq;rw[List.mem_cons,List.mem_cons,List.mem_cons,List.mem_cons,List.mem_cons,List.mem_cons,List.mem_cons]at hq;rcases hq with e|e|e|e|e|e|e|e
    ·exact .inl (by simp[bD,e])
    ·exact .inl (by simp[bD,e])
    ·exact .inr (by omega)
    ·exact .inr (by omega)
    ·exact .inr (by omega)
    ·exact .inl (by simp[bD,e])
    ·exact .inl (by simp[bD,e])
    ·have:=xw e;refine .inl ?_;unfold bD;rw[List.mem_cons,List.mem_cons,List.mem_cons,List.mem_cons];exact .inr (.inr (.inr (.inr this)))
   refine⟨rfl,nb::aU db rb fb eb vb ob og (bl.map fun b=>b.1) (gQ bl),_, ?_,fun q hq=> ?_,hM',KC,hmod⟩
   ·unfold bG;rw[hP,hT,hL.each,QE];refine⟨db,rb,cap,ob,og,fb,bU,eb,vb,bX,bl.map fun b=>b.1,gQ bl,by rw[hcells];exact hblk,by rw[←h3];exact oP,by rw[hL.many,←h3];simp[gQ],rfl,fun hh=> ?_⟩;rcases hin nb hh with e|e
    ·exact h4 e
    ·omega
   ·rcases List.mem_cons.1 hq with e|e
    ·exact .inl (by simp[e])
    ·rcases hin q e with e|e
     ·exact .inl (by simp[e])
     ·exact .inr e
  ·have hP:N.step.ph= .mZ (k+1):=by unfold Nd.step;rw[hp];simp only;rw[if_neg hk]
   have hT:N.step.T=N.T:=by unfold Nd.step;rw[hp]
   rw[if_neg (by rw[h3];exact hk)]at hif;refine⟨rfl,nb::bD db rb ob og bl,_, ?_,fun q hq=> .inl hq,hM',KC,hmod⟩;unfold bG;rw[hP,hT,hL.each,QE];exact⟨db,rb,cap,ob,og,bl,by rw[hcells];exact hblk,hif,by rw[hL.many];exact h3,rfl,h4⟩
 |iN Ts next=>
  rw[hp]at h cZ;obtain⟨db,rb,cap,ob,og,fb,bU,eb,vb,bX,bF,bs,h1,h2,h3,rfl,h4⟩:=h
  have hn:next<N.len:=by unfold Nd.left at hl;rw[hp]at hl;simp only at hl;omega
  simp only[List.mem_cons,not_or]at hF;obtain⟨f1,f2,f3,f4,c,f5⟩:=ho.fits hp hn ((x.add (cU 1) 1).add cV 1)
  have hst:=J7 db rb cap ob og fb bU eb vb bX bF bs N.T Ts N.each N.dep next P x w h2 ho.tg.ok hn (by rw[h3];exact WU f1) hM hE hF.2 hb0 (fun q hq=>Yo q (by simp[hq]))
  refine(BR h1 hst).mono ?_;rintro e w' ⟨rfl,oP,hM',hm⟩;rw[h3,TL]at oP hM';rw[f5]at hM';have KC:dI x (((x.add (cU 1) 1).add cV 1).add cV c) 0 1:=((rD x 1).trans (Mj _ 1)).trans (Mj _ c)
  have hnb:nb∉P.mb::aU db rb fb eb vb ob og bF bs:=by simp only[List.mem_cons,not_or];exact⟨fun e=>hF.1 e.symm,h4⟩
  have hP:N.step.ph= .iN (dZ N.many N.au (x9,Ts) (bO (N.T.gs.getD next []))).2 (next+1):=by unfold Nd.step;rw[hp]
  have hT:N.step.T=takeN N.T next 8:=by unfold Nd.step;rw[hp]
  refine⟨rfl,nb::aU db rb fb eb vb ob og bF bs,_, ?_,fun q hq=> .inl hq,hM',KC,hm.more (fun q hq=>by
   rcases List.mem_cons.1 hq with e|e
   ·simp[e]
   ·simp[e])⟩
  unfold bG;rw[hP,hT,hL.each,QE,Jf _ _ x9 ((x.add (cU 1) 1).add cV 1)];exact⟨db,rb,cap,ob,og,fb,bU,eb,vb,bX,bF,bs,by rw[hcells];exact h1.mod hm hnb,oP,by rw[hL.many];exact h3,rfl,h4⟩
theorem QU (h:bG w nb F N)(ho:dO H N)(hb:N.ph.busy=true)(hl:N.left=0)(hm1:N.many=1):
  Calls Tryz.prog 184 #[aK nb] w fun e w'=>e= .returned (.tuple #[.pointer none,.nilIface])∧∃X F',bG w' nb F' ⟨N.pfx,N.au,0,0,X,.idle⟩∧dO H ⟨N.pfx,N.au,0,0,X,.idle⟩∧(Nd.mk N.pfx N.au 0 0 X .idle).ents=N.ents∧X.gs.length=N.each∧(∀q∈F',q∈F)∧Mod F w w':=by
 obtain⟨Ts,hp,hT⟩:=ended ho hb hl;have cZ:=ho.ph;unfold kX at cZ;unfold bG at h;rw[hp]at h cZ;obtain⟨db,rb,cap,ob,og,fb,bU,eb,vb,bX,bF,bs,h1,h2,h3,rfl,h4⟩:=h;rw[hm1]at h3;obtain⟨b,rfl⟩:=List.length_eq_one_iff.1 h3;have TM:=h2.tabs.len;rw[h3]at TM;obtain⟨X,rfl⟩:=List.length_eq_one_iff.1 TM.symm;obtain⟨e1,e2,e3,_⟩:=Zw ho hp hT;obtain⟨m1,m2⟩:=gT (db:=db) (rb:=rb) (fb:=fb) (eb:=eb) (vb:=vb) (ob:=ob) (og:=og) (bF:=bF) (bs:=[b]) (b:=b) (by simp);refine(LJ nb ob db rb cap og fb bU eb vb bX b.1 b.2 bF N.pfx N.au N.kind N.T [X] N.each N.dep N.len w h1 h2 ho.pw.le rfl (fun q hq e=>h4 (e▸hq))).mono ?_;rintro e w' ⟨rfl,hb',hts,hm⟩;refine⟨rfl,X,[nb,b.1,b.2], ?_,e1,e2,e3,fun q hq=> ?_,hm.more (fun q hq=> ?_)⟩
 ·exact⟨b.1,b.2,hb',hts.at_ 0 b X rfl rfl,rfl,fun e=>h4 (e▸m1),fun e=>h4 (e▸m2)⟩
 ·simp at hq;rcases hq with rfl|rfl|rfl
  ·simp
  ·simp[m1]
  ·simp[m2]
 ·simp at hq;rcases hq with rfl|rfl
  ·simp
  ·simp[aU]
theorem QV (h:bG w nb F N)(ho:dO H N)(hb:N.ph.busy=true)(hl:N.left=0)(hm2:N.many=2):
  Calls Tryz.prog 184 #[aK nb] w fun e w'=>∃qb,e= .returned (.tuple #[aK qb,.nilIface])∧w.heap.size≤qb∧N.au<5∧∃X Y F' F2,bG w' nb F' ⟨2*N.pfx,N.au+1,0,0,X,.idle⟩∧bG w' qb F2 ⟨2*N.pfx+1,N.au+1,0,0,Y,.idle⟩∧dO H ⟨2*N.pfx,N.au+1,0,0,X,.idle⟩∧dO H ⟨2*N.pfx+1,N.au+1,0,0,Y,.idle⟩∧
   (Nd.mk (2*N.pfx) (N.au+1) 0 0 X .idle).ents++(Nd.mk (2*N.pfx+1) (N.au+1) 0 0 Y .idle).ents=N.ents∧X.gs.length=N.each∧Y.gs.length=N.each∧(∀q∈F',q∈F)∧(∀q∈F2,q∈F∨w.heap.size≤q)∧(∀q∈F',q∉F2)∧Mod F w w':=by
 obtain⟨Ts,hp,hT⟩:=ended ho hb hl;have hpf:=ho.pfx;have hdp:=ho.deep;unfold bG at h;rw[hp]at h;obtain⟨db,rb,cap,ob,og,fb,bU,eb,vb,bX,bF,bs,h1,h2,h3,rfl,h4⟩:=h;rw[hm2]at h3;obtain⟨b,c,rfl⟩:=O8 h3;have TM:=h2.tabs.len;rw[h3]at TM;obtain⟨X,Y,rfl⟩:=O8 TM.symm;obtain⟨e1,e2,e3,e4,e5,_,e6⟩:=Zx ho hp hT;obtain⟨m1,m2⟩:=gT (db:=db) (rb:=rb) (fb:=fb) (eb:=eb) (vb:=vb) (ob:=ob) (og:=og) (bF:=bF) (bs:=[b,c]) (b:=b) (by simp);obtain⟨m3,m4⟩:=gT (db:=db) (rb:=rb) (fb:=fb) (eb:=eb) (vb:=vb) (ob:=ob) (og:=og) (bF:=bF) (bs:=[b,c]) (b:=c) (by simp);have hlts:=h2.fA;have hnl:=h1.lt
 have ae3:N.pfx≤1000:=by
  have:2^N.au≤2^5:=Nat.pow_le_pow_right (by decide) hdp;omega
 refine(LK nb ob db rb cap og fb bU eb vb bX b.1 b.2 c.1 c.2 bF N.pfx N.au N.kind N.T [X,Y] N.each N.dep N.len w h1 h2 ho.pw.le rfl (fun q hq e=>h4 (e▸hq)) (by omega) (by omega)).mono ?_;rintro e w' ⟨qb,rfl,hb',hq',Yr,hts,hm⟩;have hne:=hts.ne 0 1 b c rfl rfl (by decide);refine⟨qb,rfl,Yr,e6,X,Y,[nb,b.1,b.2],[qb,c.1,c.2], ?_, ?_,e1,e2,e3,e4,e5,fun q hq=> ?_,fun q hq=> ?_,fun q hq hq2=> ?_,hm.more (fun q hq=> ?_)⟩
 ·refine⟨b.1,b.2, ?_,hts.at_ 0 b X rfl rfl,rfl,fun e=>h4 (e▸m1),fun e=>h4 (e▸m2)⟩;unfold ko;simpa[nI]using hb'
 ·refine⟨c.1,c.2, ?_,hts.at_ 1 c Y rfl rfl,rfl,fun e=> ?_,fun e=> ?_⟩
  ·unfold ko;simpa[nI]using hq'
  ·have:=hlts _ m3;omega
  ·have:=hlts _ m4;omega
 ·simp at hq;rcases hq with rfl|rfl|rfl
  ·simp
  ·simp[m1]
  ·simp[m2]
 ·simp at hq;rcases hq with rfl|rfl|rfl
  ·exact .inr Yr
  ·exact .inl (by simp[m3])
  ·exact .inl (by simp[m4])
 ·simp at hq hq2;have g1:=hlts _ m1;have g2:=hlts _ m2
  rcases hq with rfl|rfl|rfl<;>rcases hq2 with e|e|e
  ·omega
  ·exact h4 (e▸m3)
  ·exact h4 (e▸m4)
  ·omega
  ·exact hne.1 e
  ·exact hne.2.1 e
  ·omega
  ·exact hne.2.2.1 e
  ·exact hne.2.2.2 e
 ·simp at hq;rcases hq with rfl|rfl
  ·simp
  ·simp[aU]
end
end
section
variable {w : World} {jb qb rb sb : Nat} {b k : Int} {val : Nat → Value} {ids : List Nat}
def QW (w:World)(p:Addr):Nat:=match w.cell? p with|some (.int _ n)=>n.toNat|_=>0
def CJ (sb qb:Nat)(w:World):Nat:=QW w ⟨sb,5,none⟩+QW w ⟨qb,2,none⟩
theorem dR.meas {c:Nat}(h:dR w sb qb rb jb k (c:Int) val ids):CJ sb qb w=c+ids.length:=by
 obtain⟨s,h1⟩:=h.blk;obtain⟨ring,first,h2⟩:=h.BM;have c5:=aj.cell h1 5;have c2:=h2.blk.cell 2;simp only[gl]at c5 c2;unfold CJ QW;rw[c5,c2];simp
theorem qy (h:dR w sb qb rb jb k b val ids):w.cell? ⟨sb,3,none⟩=some (pQ qb)∧w.cell? ⟨sb,4,none⟩=some (.map (some jb)):=by
 obtain⟨s,h1⟩:=h.blk;exact⟨aj.cell h1 3,aj.cell h1 4⟩
theorem dR.head {id:Nat}(h:dR w sb qb rb jb k b val (id::ids)):Calls Tryz.prog 211 #[pQ qb] w fun e w'=>e= .returned (.tuple #[nI id,.bool true])∧w.drew=w':=by
 obtain⟨ring,first,h2⟩:=h.BM
 exact QJ qb rb ring first id ids w h2
theorem dR.ZJ (h:dR w sb qb rb jb k b val []):Calls Tryz.prog 211 #[pQ qb] w fun e w'=>e= .returned (.tuple #[.int .i64 0,.bool false])∧w=w':=by
 obtain⟨ring,first,h2⟩:=h.BM
 exact Kh qb rb ring first [] w h2
theorem dR.balance (h:dR w sb qb rb jb k b val ids):Calls Tryz.prog 212 #[.pointer (some ⟨sb,5,none⟩)] w fun e w'=>e= .returned (.int .i64 b)∧w=w':=by
 obtain⟨s,h1⟩:=h.blk;exact He sb b w h1
theorem BS {W0:World}{E:Nat→Addr}{P:MP}{α:Type}{jt:Nat→TypeId}{ja:Nat→Addr}{At:World→List Nat→α→Prop}{can:α→Nat→Prop}{left:α→Nat→Nat}{Stp:α→Nat→α→Prop}(HP:iG W0 E P jt ja At can left Stp)(s:SP)(F:List Nat)(c0:Nat)(hc:c0≤64)(ids:List Nat)(a:α)(x:bI)(hval:∀id,s.val id= .iface (jt id) (.pointer (some (ja id))))(hcan:∀id∈ids,can a id∧id≤1000)(w:World)(h:bA W0 E P At s w F w (c0:Int) ids a F x):
  Calls Tryz.prog 177 #[eu s.sb,lT P] w fun e w'=>∃A cc ended aJ a' F' x' b',e= .returned (.slice A ended.length cc)∧w'.ownsRow w.heap.size 3 1 (.slice A ended.length cc) ended.length (dz ended)∧rC left Stp c0 ids a ended aJ a'∧bA W0 E P At s w F w' b' aJ a' F' x'∧dI x x' 0 c0∧mO P s F' (.slice A ended.length cc):=by
 have hval:=qd hval;have hlen:=qd h.aC.many;have H0:=qd h;have En:=qd hcan;obtain⟨F0,Jy⟩:∃F0,F0=F:=⟨_,rfl⟩;unfold eu lT;clear h hcan;rw[←Jy]at H0⊢;clear Jy;go_in;go_wp2;go_loopw [5,6,7] (fun v5 _ _ wr=>∃(c:Nat) (bQ e1:List Nat) (a1:α) (F1:List Nat) (x1:bI) (u:Nat),Hid (bA W0 E P At s w F0 wr (c:Int) bQ a1 F1 x1)∧wr.ownsRow w.heap.size 3 1 v5 e1.length (dz e1)∧Hid (∀e aJ a',rC left Stp c bQ a1 e aJ a'→rC left Stp c0 ids a (e1++e) aJ a')∧(u+c=c0∧e1.length+bQ.length=ids.length)∧(∀id∈bQ,can a1 id∧id≤1000)∧dI x x1 0 u∧Hid (mO P s F1 v5)) (fun _ _ _ wr=>CJ s.sb s.qb wr)
 case atStart=>exact⟨c0,ids,[],a,F0,x,0,H0,⟨rfl,.inl ⟨rfl,rfl⟩⟩,qd (fun _ _ _ h=>h),⟨by omega,by simp⟩,En.out,dI.refl x,qd (fun g hg=>by cases hg)⟩
 case round=>
  obtain⟨c,bQ,e1,a1,F1,x1,u,HS,hO,hK,hu,hcan,YA,O9⟩:=hrel;obtain⟨A,vc,rfl⟩:=bE hO;have hE1:=HS.out.aC.many;have HM0:=qd HS.out.aC.meas;obtain⟨hu,hE2⟩:=hu;rcases bQ with _|⟨id,bQ⟩
  ·have HH:=qd HS.out.aC.ZJ;have HF:=qd (hK.out _ _ _ (rC.nil c a1));have HO:=qd hO;have HC:=qd YA
   have hu2:u≤c0:=by omega
   obtain⟨DI,DJ⟩:=qy HS.out.aC;clear hO YA hcan;go_wp2_with fail;refine HH.out.mono ?_;rintro x w1 ⟨rfl,rfl⟩;go_wp2;go_ret;exact⟨A,vc,e1,[],a1,F1,x1,_,rfl,HO.out,by simpa using HF.out,HS.out,HC.out.mono (Nat.le_refl _) hu2,O9.out⟩
  ·have HH:=qd HS.out.aC.head;obtain⟨DI,DJ⟩:=qy HS.out.aC;have HO:=qd hO;have HC:=qd YA;have QX:=qd hcan;have hlo:=hO.lt;clear hO YA hcan;go_wp2_with fail;refine HH.out.mono ?_;rintro x w1 ⟨rfl,hdr⟩;have hb1:Below wr.heap.size wr w1:=hdr▸(Below.refl _ _).drew;clear hdr;replace HS:=qd (HS.out.below HP hb1);replace HO:=qB hb1 HO;clear DI DJ HH;obtain⟨DI,DJ⟩:=qy HS.out.aC;have HB:=qd HS.out.aC.balance;go_wp2_with fail;refine HB.out.mono ?_;rintro x w2 ⟨rfl,rfl⟩;rcases c with _|c
   ·have HF:=qd (hK.out _ _ _ (rC.broke (id::bQ) a1))
    have hu2:u≤c0:=by omega
    clear hK HB;simp only[Int.ofNat_zero]at*;go_wp2;go_ret;exact⟨A,vc,e1,_,a1,F1,x1,_,rfl,HO.out,by simpa using HF.out,HS.out,HC.out.mono (Nat.le_refl _) hu2,O9.out⟩
   ·have hc0:¬((c+1:Nat):Int)=0:=by omega
    have lU:=QX.out id (by simp);have hl:=HP.uV HS.out.pool lU.1;have HJ:=qd (HP.Mh lU.1);obtain⟨Fl,wB⟩:∃Fl,Fl=jd (jt id):=⟨_,rfl⟩;rw[←wB]at hl;have Jz:=qd wB.symm;have HL:=qd hl;have DK:=qd (wo id lU.2);have mE:=qd HS.out.aC.map;have HV:=qd (show je s.val (id::bQ) (id:Int)=some (.iface (jt id) (.pointer (some (ja id))))from by rw[wm (by simp),hval.out]);have hle:=HP.le HS.out.pool lU.1;have FZ:=qd lU;obtain⟨lf,hlf⟩:∃lf,lf=left a1 id:=⟨_,rfl⟩;rw[←hlf]at HL hle;have iX:=qd hlf;clear hl wB lU HB hlf;go_wp2_with (at_lookup;refine uT rfl _ _ rfl rfl mE.out _ rfl DK.out _ HV.out ?_);rw[qp HJ.out,Result.andThen_ok,qw HJ.out];rw[show jd (jt id)=Fl from Jz.out];rw[Oper.upon_enter];refine HL.out.mono ?_;rintro x w3 ⟨rfl,hb3⟩;replace HS:=qd (HS.out.below HP hb3);replace HO:=qB hb3 HO;replace mE:=qd HS.out.aC.map;have acT:=HS.out.size;clear HL DI DJ hb3 Jz;obtain⟨DI,DJ⟩:=qy HS.out.aC;rcases Nat.eq_zero_or_pos lf with h0|h1
    ·subst h0;have Ml:=qd (show left a1 id=0 from iX.out.symm);have HR:=qd (zP HP s F0 F1 ((c+1:Nat):Int) (id::bQ) a1 x1 id (by simp) FZ.out.2 w3 HS.out);simp only[List.erase_cons_head]at HR;simp only[Int.ofNat_zero]at*;go_wp2_with fail;refine HR.out.mono ?_;rintro x w4 ⟨rfl,hs4,jP⟩;have hO4:=jl HO.out jP (fun g hg hq=>O9.out g hg (by simp[hq]));have YB:=jP.size;clear jP HS HO HR DI DJ mE;have acX:=hs4.size;have HS4:=qd hs4;clear hs4
     have aaT:e1.length+1≤100:=by have:=hlen.out;omega
     go_wp2_with (at_builtin;refine jM rfl rfl wh hO4 rfl rfl rfl rfl rfl (by omega) (by omega) ?_;intro v4 w5 dD gM;obtain⟨A4,c4,rfl⟩:=bE dD);obtain⟨hs5,ac4⟩:=HS4.out.app HP hO4 (Nat.le_refl _) O9.out gM;go_roundw
     case rel=>exact⟨c+1,bQ,e1++[id],a1,F1,x1,u,qd hs5,by simpa[dz]using dD,qd (fun e aJ a' hh=>by rw[List.append_assoc];exact hK.out _ _ _ (.ended Ml.out hh)),⟨by omega,by simp at hE2⊢;omega⟩,fun i hi=>QX.out i (by simp[hi]),HC.out,qd (by simpa using ac4)⟩
     case measure=>
      rw[hs5.aC.meas,HM0.out];simp
    ·have hl1:¬(lf:Int)<1:=by omega
     have kJ:=qd (Mi HP s F0 F1 c (by omega) (id::bQ) a1 x1 id FZ.out.1 (by rw[←iX.out];exact h1) w3 HS.out);unfold lT at kJ;go_wp2_with (at_lookup;refine uT rfl _ _ rfl rfl mE.out _ rfl DK.out _ HV.out ?_);refine kJ.out.mono ?_;rintro x w4 ⟨rfl,a2,F2,x2,hst,hco,hs4,hF2,jP⟩;have hO4:=jl HO.out jP O9.out;have aaU:=O9.out.step HO.out hF2;have Eo:=qd (And.intro hs4 (And.intro hO4 (And.intro aaU (And.intro hst hco))));have YB:=jP.size;clear hs4 hO4 aaU hst hco jP hF2;go_wp2;go_roundw
     case rel=>exact⟨c,id::bQ,e1,a2,F2,x2,u+1,qd Eo.out.1,Eo.out.2.1,qd (fun e aJ a' hh=>hK.out _ _ _ (.step (by rw[←iX.out];exact h1) Eo.out.2.2.2.1 hh)),⟨by omega,by omega⟩,fun i hi=>⟨HP.iR Eo.out.2.2.2.1 (QX.out i hi).1,(QX.out i hi).2⟩,(HC.out.trans Eo.out.2.2.2.2).mono (by omega) (by omega),qd Eo.out.2.2.1⟩
     case measure=>
      rw[Eo.out.1.aC.meas,HM0.out];omega
end
end Go.Proofs.YtgkeameopnpinaaGreatDoor
