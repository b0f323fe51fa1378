/- A node's other operations, told of its entries and its job. -/
import Derived.Test.YtnfjjbpmhcbelaaGreatDoorCoCC
import Derived.Test.YtnfjjbpmhcbelaaGreatDoorGaugeA
import Derived.Test.YtnfjjbpmhcbelaaGreatDoorCoBU
import Derived.Test.YtnfjjbpmhcbelaaGreatDoorSqM
namespace Go.Proofs.YtnfjjbpmhcbelaaGreatDoor
set_option maxRecDepth 100000
set_option maxHeartbeats 4000000
open Go.RowKit dI
section
variable {a b f : av} {l' : List av} {o : Option av} {Ts : List aC}
def fU (f:av)(l:List av):Option av→Prop
 |none=>∀e∈l,bF e f=true
 |some m=>m∈l∧bF m f=false∧∀e∈l,bF e f=false→bF e m=false
theorem IJ {c:av}(h:bF a b=true)(k:bF b c=true):bF a c=true:=by
 simp[bF]at*;omega
theorem zL (a:av):bF a a=false:=by simp[bF]
theorem OG {l:List av}(h:fU f l o)(e:av):fU f (l++[e]) (nk f o e):=by
 unfold nk
 cases hl:bF e f with
 |true=>
  simp only[Bool.not_true,Bool.false_and,Bool.false_eq_true,if_false]
  cases o with
  |none=>
   intro x hx;rcases List.mem_append.1 hx with h1|h1
   ·exact h x h1
   ·simp at h1;subst h1;exact hl
  |some m=>
   refine⟨List.mem_append_left _ h.1,h.2.1,fun x hx jZ=> ?_⟩;rcases List.mem_append.1 hx with h1|h1
   ·exact h.2.2 x h1 jZ
   ·simp at h1;subst h1;rw[hl]at jZ;cases jZ
 |false=>
  cases o with
  |none=>
   simp only[Bool.not_false,Bool.true_and,if_true];refine⟨by simp,hl,fun x hx jZ=> ?_⟩;rcases List.mem_append.1 hx with h1|h1
   ·rw[h x h1]at jZ;cases jZ
   ·simp at h1;subst h1;exact zL _
  |some m=>
   simp only[Bool.not_false,Bool.true_and]
   cases hm:bF e m with
   |true=>
    rw[if_pos rfl];refine⟨by simp,hl,fun x hx jZ=> ?_⟩;rcases List.mem_append.1 hx with h1|h1
    ·cases hxe:bF x e with
     |false=>rfl
     |true=>have:=h.2.2 x h1 jZ;rw[IJ hxe hm]at this;cases this
    ·simp at h1;subst h1;exact zL _
   |false=>
    rw[if_neg (by simp)];refine⟨List.mem_append_left _ h.1,h.2.1,fun x hx jZ=> ?_⟩;rcases List.mem_append.1 hx with h1|h1
    ·exact h.2.2 x h1 jZ
    ·simp at h1;subst h1;exact hm
theorem DN (f:av):∀(es l:List av) (o:Option av),fU f l o→fU f (l++es) (dO f o es)
 | [],l,o,h=>by simpa[dO]using h
 |e::es,l,o,h=>by
  have:=DN f es (l++[e]) _ (OG h e);simpa[dO]using this
theorem Ld (f:av)(es:List av):fU f es (dO f none es):=by
 have:=DN f es [] none (by intro e he;cases he);simpa using this
theorem Me {l:List av}{o':Option av}(h:fU f l o)(h':fU f l' o'):fU f (l++l') (sU o o'):=by
 unfold sU
 cases o' with
 |none=>
  cases o with
  |none=>
   intro x hx;rcases List.mem_append.1 hx with h1|h1
   ·exact h x h1
   ·exact h' x h1
  |some m=>
   refine⟨List.mem_append_left _ h.1,h.2.1,fun x hx jZ=> ?_⟩;rcases List.mem_append.1 hx with h1|h1
   ·exact h.2.2 x h1 jZ
   ·rw[h' x h1]at jZ;cases jZ
 |some e=>
  cases o with
  |none=>
   refine⟨List.mem_append_right _ h'.1,h'.2.1,fun x hx jZ=> ?_⟩;rcases List.mem_append.1 hx with h1|h1
   ·rw[h x h1]at jZ;cases jZ
   ·exact h'.2.2 x h1 jZ
  |some m=>
   simp only
   cases hm:bF e m with
   |true=>
    rw[if_pos rfl];refine⟨List.mem_append_right _ h'.1,h'.2.1,fun x hx jZ=> ?_⟩;rcases List.mem_append.1 hx with h1|h1
    ·cases hxe:bF x e with
     |false=>rfl
     |true=>have:=h.2.2 x h1 jZ;rw[IJ hxe hm]at this;cases this
    ·exact h'.2.2 x h1 jZ
   |false=>
    rw[if_neg (by simp)];refine⟨List.mem_append_left _ h.1,h.2.1,fun x hx jZ=> ?_⟩;rcases List.mem_append.1 hx with h1|h1
    ·exact h.2.2 x h1 jZ
    ·cases hxm:bF x m with
     |false=>rfl
     |true=>
      have h2:=h'.2.2 x h1 jZ
      have:bF e m=true:=by
       simp[bF]at*;omega
      rw[hm]at this;cases this
theorem Cr (f:av):∀(Ts:List aC) (l:List av) (o:Option av),fU f l o→fU f (l++dh Ts) (Ts.foldl (fun o T=>sU o (dO f none (aM T.gs))) o)
 | [],l,o,h=>by simpa[dh]using h
 |T::Ts,l,o,h=>by
  have:=Cr f Ts (l++aM T.gs) _ (Me h (Ld f (aM T.gs)));simpa[dh]using this
theorem IK (f:av)(Ts:List aC):fU f (dh Ts) (fT f Ts):=by
 have:=Cr f Ts [] none (by intro e he;cases he);simpa[fT]using this
theorem iw.snoc {w:World}{bs:List (Nat×Nat)}{ob og:Nat}{T:aC}(h:iw w bs Ts)(hT:TabAt w ob og T)(h1:ob∉fM bs)(h2:og∉fM bs):iw w (bs++[(ob,og)]) (Ts++[T]):=by
 have hcase:∀(i:Nat) (b:Nat×Nat),(bs++[(ob,og)])[i]?=some b→bs[i]?=some b∨(i=bs.length∧b=(ob,og)):=fun i b hb=>by
  by_cases hi:i<bs.length
  ·rw[List.getElem?_append_left hi]at hb;exact .inl hb
  ·rw[List.getElem?_append_right (by omega)]at hb
   have h0:i-bs.length=0:=by
    have:=(List.getElem?_eq_some_iff.1 hb).1;simp at this;omega
   rw[h0]at hb;simp at hb;exact .inr ⟨by omega,hb.symm⟩
 refine⟨by simp[h.len],fun i b X hb hX=> ?_,fun i j b c hb hc hij=> ?_⟩
 ·rcases hcase i b hb with h3|⟨rfl,rfl⟩
  ·rw[List.getElem?_append_left (by rw[←h.len];exact(List.getElem?_eq_some_iff.1 h3).1)]at hX;exact h.at_ i b X h3 hX
  ·rw[h.len,List.getElem?_append_right (Nat.le_refl _),Nat.sub_self]at hX;cases hX;exact hT
 ·have hf:∀b∈bs,b.1≠ob∧b.1≠og∧b.2≠ob∧b.2≠og:=fun b hb=>
   ⟨fun e=>h1 (e▸dM.2 ⟨b,hb,.inl rfl⟩),fun e=>h2 (e▸dM.2 ⟨b,hb,.inl rfl⟩),fun e=>h1 (e▸dM.2 ⟨b,hb,.inr rfl⟩),fun e=>h2 (e▸dM.2 ⟨b,hb,.inr rfl⟩)⟩
  rcases hcase i b hb with h3|⟨rfl,rfl⟩<;>rcases hcase j c hc with h4|⟨rfl,rfl⟩
  ·exact h.ne i j b c h3 h4 hij
  ·exact hf b (List.mem_of_getElem? h3)
  ·obtain⟨a1,a2,a3,a4⟩:=hf c (List.mem_of_getElem? h4);exact⟨a1.symm,a3.symm,a2.symm,a4.symm⟩
  ·exact absurd rfl hij
theorem acy (d d' h:Nat):dB 1 d h=dB 1 d' h:=by unfold dB;rw[if_pos rfl,if_pos rfl]
theorem Zj (d d':Nat):uJ 1 d=uJ 1 d':=by funext st e;unfold uJ;rw[acy d d']
theorem Wj (d d':Nat):∀(es:List av) (Ts:List aC),Fits 1 d Ts es→Fits 1 d' Ts es
 | [],_,_=>trivial
 |e::es,Ts,h=>by
  unfold Fits at h⊢;rw[acy d' d];exact⟨h.1,Wj d d' es _ h.2⟩
theorem Zk {N:Nd}{es:List av}(h:Fits N.many N.au Ts es):Fits N.many N.dep Ts es:=by
 unfold Nd.dep;split
 ·next h1=>rw[h1]at h⊢;exact Wj _ _ _ _ h
 ·exact h
theorem Wl (N:Nd)(st:bL×List aC)(es:List av):eD N.many N.dep st es=eD N.many N.au st es:=by
 unfold Nd.dep;split
 ·next h1=>rw[h1];unfold eD;rw[Zj]
 ·rfl
section
variable {W0 : World} {E : Nat → Addr} {H : Nat → Nat} {nb : Nat} {F : List Nat} {N : Nd} {P : MP} {x : bL} {w : World}
theorem acz (h:bJ w nb F N):∃tb dv,aj w nb 189 (kS N tb dv):=by
 unfold bJ at h;split at h
 ·obtain⟨tb,gb,h1,_⟩:=h;exact⟨_,_,h1⟩
 ·obtain⟨db,rb,cap,ob,og,bl,h1,_⟩:=h;exact⟨_,_,h1⟩
 ·obtain⟨db,rb,cap,ob,og,fb,bY,eb,vb,cK,bI,bs,h1,_⟩:=h;exact⟨_,_,h1⟩
theorem Le (h:bJ w nb F N):Calls Tryz.prog 180 #[aL nb] w fun e w'=>e= .returned (.tuple #[nI N.pfx,nI N.au])∧w.drew=w':=by
 obtain⟨tb,dv,hb⟩:=acz h;exact Qb nb tb N.pfx N.au N.kind dv w hb
theorem abt (h:bJ w nb F N)(ho:dU H N):Calls Tryz.prog 299 #[aL nb] w fun e w'=>e= .returned (nI N.left)∧Below w.heap.size w w':=by
 have hl:=ho.pw.le;have dx:=ho.ph;unfold lU at dx;unfold bJ at h;unfold Nd.left
 cases hp:N.ph with
 |idle=>
  rw[hp]at h;obtain⟨tb,gb,h1,_⟩:=h;exact(L6 nb tb N.pfx N.au N.kind w h1).mono fun e w' ⟨a,b⟩=>⟨a,b▸Below.refl _ _⟩
 |nW k=>
  rw[hp]at h;obtain⟨db,rb,cap,ob,og,bl,h1,h2,h3,_⟩:=h;have:=LK db rb cap ob og bl N.T N.each N.dep k w h2 hl;rw[h3]at this;exact Am nb ob db N.pfx N.au N.kind _ (fun V V'=>Below V.heap.size V V') w h1 this
 |iY Ts next=>
  rw[hp]at h dx;obtain⟨db,rb,cap,ob,og,fb,bY,eb,vb,cK,bI,bs,h1,h2,h3,_⟩:=h
  have:=qO db rb cap ob og fb bY eb vb cK bI bs N.T Ts N.each N.dep next w h2 hl dx.2.1
  exact(Am nb ob db N.pfx N.au N.kind _ (fun V V'=>V.drew=V') w h1 this).mono fun e w' ⟨a,b⟩=>⟨a,b▸(Below.refl _ _).drew⟩
theorem Mf (gl:Nat)(h:bJ w nb F N)(hb:N.ph.busy=true):Calls Tryz.prog 110 #[aL nb,nI gl] w fun e w'=>e= .returned (.tuple #[.int .i64 0,.bool false])∧Below w.heap.size w w':=by
 unfold bJ at h
 cases hp:N.ph with
 |idle=>rw[hp]at hb;cases hb
 |nW k=>
  rw[hp]at h;obtain⟨db,rb,cap,ob,og,bl,h1,_⟩:=h;exact(ze nb ob db N.pfx N.au N.kind gl w h1).mono fun e w' ⟨a,b⟩=>⟨a,b▸Below.refl _ _⟩
 |iY Ts next=>
  rw[hp]at h;obtain⟨db,rb,cap,ob,og,fb,bY,eb,vb,cK,bI,bs,h1,_⟩:=h;exact(ze nb ob db N.pfx N.au N.kind gl w h1).mono fun e w' ⟨a,b⟩=>⟨a,b▸Below.refl _ _⟩
theorem Mg (gl:Nat)(h:bJ w nb F N)(ho:dU H N)(hi:N.ph= .idle):Calls Tryz.prog 110 #[aL nb,nI gl] w fun e w'=>e= .returned (.tuple #[.int .i64 ((jo N.T.live N.T.bW N.len N.au gl:Nat):Int),.bool (eU N.T.live N.T.bW N.len N.au gl)])∧Below w.heap.size w w':=by
 unfold bJ at h;rw[hi]at h;obtain⟨tb,gb,h1,h2,_⟩:=h;exact JA nb tb gb N.au gl N.pfx N.kind N.T w h1 h2 ho.tg.ok
theorem Zl (gl kind:Nat)(hgl:gl≤5)(h:bJ w nb F N)(ho:dU H N)(hi:N.ph= .idle)(hk:jo N.T.live N.T.bW N.len N.au gl=kind)(h0:kind≠0):Calls Tryz.prog 112 #[aL nb,nI kind] w fun e w'=>e= .returned .nilIface∧∃F',bJ w' nb F' (N.start kind)∧(∀q∈F',q∈F∨w.heap.size≤q)∧Mod [nb] w w':=by
 obtain⟨hs,_⟩:=Oj ho hi hgl hk h0;have dx:=hs.ph;have hK:jQ (N.start kind):=dx.1;obtain⟨k1,k2,k3,k4,k5⟩:=iZ (N:=N.start kind) ho.pw hK;have hd:=ho.deep
 have hd':N.au<5∨(N.start kind).many=1∧N.au≤5:=by
  rcases hK with h1|h1|h1
  ·exact .inr ⟨by unfold Nd.many;rw[h1];rfl,hd⟩
  ·exact .inr ⟨by unfold Nd.many;rw[h1.1];rfl,hd⟩
  ·exact .inl h1.2.2
 unfold bJ at h;rw[hi]at h;obtain⟨tb,gb,h1,h2,rfl,h3,h4⟩:=h;refine(Td nb tb gb kind (N.start kind).each (N.start kind).many N.au N.pfx N.kind N.T hd' w h1 h2 ho.tg.ok k1 k5 h3 h4).mono ?_;rintro e w' ⟨rfl,db,hb,⟨rb,cap,bl,l1,l2,l3,l4,qF⟩,hm⟩;have hnl:=h1.lt;refine⟨rfl,nb::bH db rb tb gb bl, ?_,fun q hq=> ?_,hm⟩
 ·unfold bJ;show∃db rb cap ob og bl,_;refine⟨db,rb,cap,tb,gb,bl,hb,qF,l4,rfl,fun hh=> ?_⟩;simp only[bH,List.mem_cons]at hh;rcases hh with e|e|e|e|e
  ·omega
  ·omega
  ·exact h3 e
  ·exact h4 e
  ·have:=l3 nb e;omega
 ·simp only[bH,List.mem_cons]at hq;rcases hq with e|e|e|e|e|e
  ·exact .inl (by simp[e])
  ·exact .inr (by omega)
  ·exact .inr (by omega)
  ·exact .inl (by simp[e])
  ·exact .inl (by simp[e])
  ·exact .inr (l3 q e)
theorem Zm (key hash:Nat)(h:bJ w nb F N)(ho:dU H N)(hM:aN w P x)(hE:Env W0 E w)(hb0:W0.heap.size≤P.mb)(hF:P.mb∉F):
  Calls Tryz.prog 186 #[aL nb,aG (some ⟨P.mb,P.mo,none⟩) cP,nU hash,nU key] w fun e w'=>∃o x',e= .returned (eX o)∧fU ⟨key,0,hash⟩ N.ents o∧aN w' P x'∧dL x x' 192 0∧Mod [P.mb] w w':=by
 have hl:=ho.pw.le;have dx:=ho.ph;unfold lU at dx;unfold bJ at h
 have fin:∀(w':World) (n:Nat),Through (fun V V'=>aN V' P (x.add cP n)∧Mod [P.mb] V V') w w'→n≤192→∃x',aN w' P x'∧dL x x' 192 0∧Mod [P.mb] w w':=fun w' n ht hn=>by
  obtain⟨h1,h2⟩:=ht.out (by simpa using hM.lt) (fun V' g hg hR hm=>hR.mod hm (by have:=hM.lt;simp;omega));exact⟨_,h1,(yx x n).mono hn (Nat.le_refl _),h2⟩
 cases hp:N.ph with
 |idle=>
  rw[hp]at h;obtain⟨tb,gb,h1,h2,rfl,h3,h4⟩:=h
  have hE':N.ents=aM N.T.gs:=by unfold Nd.ents;rw[hp];rfl
  refine(Jw nb tb N.pfx N.au N.kind hash key P cP ((dO ⟨key,0,hash⟩ none (aM N.T.gs)).getD ⟨0,0,0⟩) (dO ⟨key,0,hash⟩ none (aM N.T.gs)).isSome [P.mb] (fun V V'=>aN V' P (x.add cP N.T.gs.length)∧Mod [P.mb] V V') w h1 (by simpa using hM.lt) fun V hV=> ?_).mono fun e w' ⟨a,b⟩=> ?_
  ·exact(E9 tb gb N.T P x cP hash key hl V (h2.below hV) (hM.below hV) (hE.next hV) (fun e=>hF (by simp[e])) (fun e=>hF (by simp[e])) hb0).mono fun e V' ⟨a,b,c⟩=>⟨a,c,b,c⟩
  ·obtain⟨x',c,d⟩:=fin w' _ b (by unfold Nd.len at hl;omega);exact⟨_,x',a,by rw[hE'];exact Ld _ _,c,d⟩
 |nW k=>
  rw[hp]at h;obtain⟨db,rb,cap,ob,og,bl,h1,h2,h3,rfl,h4⟩:=h
  have hE':N.ents=dh [N.T]:=by unfold Nd.ents;rw[hp];simp[Aq,dh]
  have nV:P.mb≠ob:=fun e=>hF (by simp[bH,e]);have hog:P.mb≠og:=fun e=>hF (by simp[bH,e]);refine(za nb ob db N.pfx N.au N.kind hash key P cP ((fT ⟨key,0,hash⟩ [N.T]).getD ⟨0,0,0⟩) (fT ⟨key,0,hash⟩ [N.T]).isSome [P.mb] (fun V V'=>aN V' P (x.add cP (sV [N.T]))∧Mod [P.mb] V V') w h1 (by simpa using hM.lt) fun V hV=> ?_).mono fun e w' ⟨a,b⟩=> ?_
  ·have h2':=h2.mod (Mod.of_below hV []) (by simp)
   have hts:iw V [(ob,og)] [N.T]:=by
    have:=(iw.mk (w:=V) (bs:=[]) (Ts:=[]) rfl (fun j b T hb=>by simp at hb) (fun i j b c hb=>by simp at hb)).snoc h2'.tab (by simp[fM]) (by simp[fM]);simpa using this
   exact(Iq db ob 0 none [] (by simp) _ _ _ _ [(ob,og)] [N.T] P x cP hash key V h2'.blk ⟨by simp[ptrs],fun hh=>by simp at hh⟩ rfl hts (fun T hT=>by simp at hT;subst hT;exact hl) (hM.below hV) (hE.next hV) hb0 (fun b hb=>by simp at hb;subst hb;exact⟨nV,hog⟩)).mono fun e V' ⟨a,b,c⟩=>⟨a,c,b,c⟩
  ·obtain⟨x',c,d⟩:=fin w' _ b (by unfold sV;unfold Nd.len at hl;simp;omega);exact⟨_,x',a,by rw[hE'];exact IK _ _,c,d⟩
 |iY Ts next=>
  rw[hp]at h dx;obtain⟨db,rb,cap,ob,og,fb,bY,eb,vb,cK,bI,bs,h1,h2,h3,rfl,h4⟩:=h;obtain⟨g1,g2,g3,g4,g5⟩:=dx;obtain⟨k1,k2,k3,k4,_⟩:=iZ ho.pw g1
  have hE':N.ents=dh (Ts++[N.T]):=by unfold Nd.ents;rw[hp];simp[Aq,dh]
  have hg:∀T∈Ts++[N.T],T.gs.length≤64:=fun T hT=>by
   rcases List.mem_append.1 hT with h5|h5
   ·obtain⟨j,hj⟩:=List.getElem?_of_mem h5;rw[(g3.tg j T hj).2];exact k1.le
   ·simp at h5;subst h5;exact hl
  have hsum:∀l:List aC,(∀T∈l,T.gs.length≤64)→sV l≤64*l.length:=fun l=>by
   induction l with
   |nil=>intro _;simp[sV]
   |cons T l ih=>
    intro hh;have h6:=ih (fun X hX=>hh X (by simp[hX]));have h7:=hh T (by simp);unfold sV at h6⊢;simp only[List.map_cons,List.sum_cons,List.length_cons];omega
  have hs:=hsum _ hg;have hlen:=g3.len;rw[List.length_append,List.length_singleton,hlen]at hs;refine(za nb ob db N.pfx N.au N.kind hash key P cP ((fT ⟨key,0,hash⟩ (Ts++[N.T])).getD ⟨0,0,0⟩) (fT ⟨key,0,hash⟩ (Ts++[N.T])).isSome [P.mb] (fun V V'=>aN V' P (x.add cP (sV (Ts++[N.T])))∧Mod [P.mb] V V') w h1 (by simpa using hM.lt) fun V hV=> ?_).mono fun e w' ⟨a,b⟩=> ?_
  ·have h2':=h2.mod (Mod.of_below hV []) (by simp);have hnd:=h2.nd;unfold aW at hnd;simp only[List.nodup_cons,List.mem_cons,List.mem_append,not_or]at hnd;obtain⟨_,_,_,_,_,⟨_,_,f8⟩,⟨_,g8⟩,_⟩:=hnd;have hts:=h2'.tabs.snoc h2'.tab f8 g8
   exact(Iq db ob bY (some ⟨fb,0,none⟩) (bs.map Prod.fst) (by rw[List.length_map];omega) _ _ _ _ (bs++[(ob,og)]) (Ts++[N.T]) P x cP hash key V (by rw[List.length_map];exact h2'.blk) (fA.reads h2'.fresh) (by simp) hts hg (hM.below hV) (hE.next hV) hb0 (fun b hb=>by
    rcases List.mem_append.1 hb with h5|h5
    ·obtain⟨m1,m2⟩:=iA (db:=db) (rb:=rb) (fb:=fb) (eb:=eb) (vb:=vb) (ob:=ob) (og:=og) (bI:=bI) h5;exact⟨fun e=>hF (by rw[e];simp[m1]),fun e=>hF (by rw[e];simp[m2])⟩
    ·simp at h5;subst h5
     exact⟨fun e=>hF (by simp[aW,e]),fun e=>hF (by simp[aW,e])⟩)).mono fun e V' ⟨a,b,c⟩=>⟨a,c,b,c⟩
  ·obtain⟨x',c,d⟩:=fin w' _ b (by omega);exact⟨_,x',a,by rw[hE'];exact IK _ _,c,d⟩
theorem Rc {α:Type}{l:List α}(h:l.length=2):∃a b,l=[a,b]:=by
 match l,h with
 | [a,b],_=>exact⟨a,b,rfl⟩
theorem DR {nb tb db:Nat}{pfx au job:Int}{R:World→Prop}(h:aj w nb 189 #[.int .i64 pfx,.int .i64 au,pQ tb,.int .i64 job,pQ db])(hc:Calls Tryz.prog 301 #[bX db,.pointer (some ⟨P.mb,P.mo,none⟩)] w fun e w'=>e= .returned (.bool true)∧R w'):
  Calls Tryz.prog 300 #[aL nb,.pointer (some ⟨P.mb,P.mo,none⟩)] w fun e w'=>e= .returned (.bool true)∧R w':=Jz nb tb db pfx au job P (fun _ V'=>R V') w h hc
theorem abu (h:bJ w nb F N)(ho:dU H N)(hl:1≤N.left)(hM:aN w P x)(hE:Env W0 E w)(hb0:W0.heap.size≤P.mb)(hF:P.mb∉F)(hbF:∀q∈F,W0.heap.size≤q):
  Calls Tryz.prog 300 #[aL nb,mP P] w fun e w'=>e= .returned (.bool true)∧∃F' x',bJ w' nb F' N.step∧(∀q∈F',q∈F∨w.heap.size≤q)∧aN w' P x'∧dL x x' 0 1∧Mod (P.mb::F) w w':=by
 have hL:=rW N
 have Tc:N.step.dep=N.dep:=by unfold Nd.dep;rw[hL.many,hL.au]
 have hcells:∀tb dv,kS N.step tb dv=kS N tb dv:=fun tb dv=>by unfold kS;rw[hL.pfx,hL.au,hL.kind]
 have dx:=ho.ph;unfold lU at dx;unfold bJ at h
 cases hp:N.ph with
 |idle=>unfold Nd.left at hl;rw[hp]at hl;simp at hl
 |nW k=>
  rw[hp]at h dx;obtain⟨db,rb,cap,ob,og,bl,h1,h2,h3,rfl,h4⟩:=h;simp only[List.mem_cons,not_or]at hF;have hst:=LV db rb cap ob og bl N.T N.each N.dep k P x w h2 hM hE hF.2 hb0 (fun q hq=>hbF q (by simp[hq]));refine(DR h1 hst).mono ?_;rintro e w' ⟨rfl,hM',hm,hif⟩;have MC:dL x ((x.add cV 1).add (cU 1) 1) 0 1:=(OE x 1).trans (tH _ 1)
  have hnb:nb∉P.mb::bH db rb ob og bl:=by simp only[List.mem_cons,not_or];exact⟨fun e=>hF.1 e.symm,h4⟩
  have hblk:=h1.mod hm hnb
  have hmod:Mod (P.mb::nb::bH db rb ob og bl) w w':=hm.more (fun q hq=>by
   rcases List.mem_cons.1 hq with e|e
   ·simp[e]
   ·simp[e])
  by_cases hk:k+1=N.each*N.many
  ·have hP:N.step.ph= .iY (List.replicate N.many (dR N.each N.each)) 0:=by unfold Nd.step;rw[hp];simp only;rw[if_pos hk]
   have hT:N.step.T=N.T:=by unfold Nd.step;rw[hp]
   rw[if_pos (by rw[h3];exact hk)]at hif;obtain⟨fb,bY,eb,vb,cK,qF,l1,l2,l3⟩:=hif;have hnl:=h1.lt
   have hin:∀q,q∈aW db rb fb eb vb ob og (bl.map fun b=>b.1) (iy bl)→q∈bH db rb ob og bl∨w.heap.size≤q:=fun q hq=>by
    unfold aW at hq;rw[List.mem_cons,List.mem_cons,List.mem_cons,List.mem_cons,List.mem_cons,List.mem_cons,List.mem_cons]at hq;rcases hq with e|e|e|e|e|e|e|e
    ·exact .inl (by simp[bH,e])
    ·exact .inl (by simp[bH,e])
    ·exact .inr (by omega)
    ·exact .inr (by omega)
    ·exact .inr (by omega)
    ·exact .inl (by simp[bH,e])
    ·exact .inl (by simp[bH,e])
    ·have:=y7 e;refine .inl ?_;unfold bH;rw[List.mem_cons,List.mem_cons,List.mem_cons,List.mem_cons];exact .inr (.inr (.inr (.inr this)))
   refine⟨rfl,nb::aW db rb fb eb vb ob og (bl.map fun b=>b.1) (iy bl),_, ?_,fun q hq=> ?_,hM',MC,hmod⟩
   ·unfold bJ;rw[hP,hT,hL.each,Tc];refine⟨db,rb,cap,ob,og,fb,bY,eb,vb,cK,bl.map fun b=>b.1,iy bl,by rw[hcells];exact hblk,by rw[←h3];exact qF,by rw[hL.many,←h3];simp[iy],rfl,fun hh=> ?_⟩;rcases hin nb hh with e|e
    ·exact h4 e
    ·omega
   ·rcases List.mem_cons.1 hq with e|e
    ·exact .inl (by simp[e])
    ·rcases hin q e with e|e
     ·exact .inl (by simp[e])
     ·exact .inr e
  ·have hP:N.step.ph= .nW (k+1):=by unfold Nd.step;rw[hp];simp only;rw[if_neg hk]
   have hT:N.step.T=N.T:=by unfold Nd.step;rw[hp]
   rw[if_neg (by rw[h3];exact hk)]at hif;refine⟨rfl,nb::bH db rb ob og bl,_, ?_,fun q hq=> .inl hq,hM',MC,hmod⟩;unfold bJ;rw[hP,hT,hL.each,Tc];exact⟨db,rb,cap,ob,og,bl,by rw[hcells];exact hblk,hif,by rw[hL.many];exact h3,rfl,h4⟩
 |iY Ts next=>
  rw[hp]at h dx;obtain⟨db,rb,cap,ob,og,fb,bY,eb,vb,cK,bI,bs,h1,h2,h3,rfl,h4⟩:=h
  have hn:next<N.len:=by unfold Nd.left at hl;rw[hp]at hl;simp only at hl;omega
  simp only[List.mem_cons,not_or]at hF;obtain⟨f1,f2,f3,f4,c,f5⟩:=ho.fits hp hn ((x.add (cU 1) 1).add cV 1)
  have hst:=LU db rb cap ob og fb bY eb vb cK bI bs N.T Ts N.each N.dep next P x w h2 ho.tg.ok hn (by rw[h3];exact Zk f1) hM hE hF.2 hb0 (fun q hq=>hbF q (by simp[hq]))
  refine(DR h1 hst).mono ?_;rintro e w' ⟨rfl,qF,hM',hm⟩;rw[h3,Wl]at qF hM';rw[f5]at hM';have MC:dL x (((x.add (cU 1) 1).add cV 1).add cV c) 0 1:=((tH x 1).trans (OE _ 1)).trans (OE _ c)
  have hnb:nb∉P.mb::aW db rb fb eb vb ob og bI bs:=by simp only[List.mem_cons,not_or];exact⟨fun e=>hF.1 e.symm,h4⟩
  have hP:N.step.ph= .iY (eD N.many N.au (zH,Ts) (bT (N.T.gs.getD next []))).2 (next+1):=by unfold Nd.step;rw[hp]
  have hT:N.step.T=takeN N.T next 8:=by unfold Nd.step;rw[hp]
  refine⟨rfl,nb::aW db rb fb eb vb ob og bI bs,_, ?_,fun q hq=> .inl hq,hM',MC,hm.more (fun q hq=>by
   rcases List.mem_cons.1 hq with e|e
   ·simp[e]
   ·simp[e])⟩
  unfold bJ;rw[hP,hT,hL.each,Tc,KU _ _ zH ((x.add (cU 1) 1).add cV 1)];exact⟨db,rb,cap,ob,og,fb,bY,eb,vb,cK,bI,bs,by rw[hcells];exact h1.mod hm hnb,qF,by rw[hL.many];exact h3,rfl,h4⟩
theorem Tv (h:bJ w nb F N)(ho:dU H N)(hb:N.ph.busy=true)(hl:N.left=0)(hm1:N.many=1):
  Calls Tryz.prog 179 #[aL nb] w fun e w'=>e= .returned (.tuple #[.pointer none,.nilIface])∧∃X F',bJ w' nb F' ⟨N.pfx,N.au,0,0,X,.idle⟩∧dU H ⟨N.pfx,N.au,0,0,X,.idle⟩∧(Nd.mk N.pfx N.au 0 0 X .idle).ents=N.ents∧X.gs.length=N.each∧(∀q∈F',q∈F)∧Mod F w w':=by
 obtain⟨Ts,hp,hT⟩:=ended ho hb hl;have dx:=ho.ph;unfold lU at dx;unfold bJ at h;rw[hp]at h dx;obtain⟨db,rb,cap,ob,og,fb,bY,eb,vb,cK,bI,bs,h1,h2,h3,rfl,h4⟩:=h;rw[hm1]at h3;obtain⟨b,rfl⟩:=List.length_eq_one_iff.1 h3;have Wm:=h2.tabs.len;rw[h3]at Wm;obtain⟨X,rfl⟩:=List.length_eq_one_iff.1 Wm.symm;obtain⟨e1,e2,e3,_⟩:=abh ho hp hT;obtain⟨m1,m2⟩:=iA (db:=db) (rb:=rb) (fb:=fb) (eb:=eb) (vb:=vb) (ob:=ob) (og:=og) (bI:=bI) (bs:=[b]) (b:=b) (by simp);refine(Oc nb ob db rb cap og fb bY eb vb cK b.1 b.2 bI N.pfx N.au N.kind N.T [X] N.each N.dep N.len w h1 h2 ho.pw.le rfl (fun q hq e=>h4 (e▸hq))).mono ?_;rintro e w' ⟨rfl,hb',hts,hm⟩;refine⟨rfl,X,[nb,b.1,b.2], ?_,e1,e2,e3,fun q hq=> ?_,hm.more (fun q hq=> ?_)⟩
 ·exact⟨b.1,b.2,hb',hts.at_ 0 b X rfl rfl,rfl,fun e=>h4 (e▸m1),fun e=>h4 (e▸m2)⟩
 ·simp at hq;rcases hq with rfl|rfl|rfl
  ·simp
  ·simp[m1]
  ·simp[m2]
 ·simp at hq;rcases hq with rfl|rfl
  ·simp
  ·simp[aW]
theorem Tw (h:bJ w nb F N)(ho:dU H N)(hb:N.ph.busy=true)(hl:N.left=0)(hm2:N.many=2):
  Calls Tryz.prog 179 #[aL nb] w fun e w'=>∃qb,e= .returned (.tuple #[aL qb,.nilIface])∧w.heap.size≤qb∧N.au<5∧∃X Y F' F2,bJ w' nb F' ⟨2*N.pfx,N.au+1,0,0,X,.idle⟩∧bJ w' qb F2 ⟨2*N.pfx+1,N.au+1,0,0,Y,.idle⟩∧dU H ⟨2*N.pfx,N.au+1,0,0,X,.idle⟩∧dU H ⟨2*N.pfx+1,N.au+1,0,0,Y,.idle⟩∧
   (Nd.mk (2*N.pfx) (N.au+1) 0 0 X .idle).ents++(Nd.mk (2*N.pfx+1) (N.au+1) 0 0 Y .idle).ents=N.ents∧X.gs.length=N.each∧Y.gs.length=N.each∧(∀q∈F',q∈F)∧(∀q∈F2,q∈F∨w.heap.size≤q)∧(∀q∈F',q∉F2)∧Mod F w w':=by
 obtain⟨Ts,hp,hT⟩:=ended ho hb hl;have hpf:=ho.pfx;have hdp:=ho.deep;unfold bJ at h;rw[hp]at h;obtain⟨db,rb,cap,ob,og,fb,bY,eb,vb,cK,bI,bs,h1,h2,h3,rfl,h4⟩:=h;rw[hm2]at h3;obtain⟨b,c,rfl⟩:=Rc h3;have Wm:=h2.tabs.len;rw[h3]at Wm;obtain⟨X,Y,rfl⟩:=Rc Wm.symm;obtain⟨e1,e2,e3,e4,e5,_,e6⟩:=abj ho hp hT;obtain⟨m1,m2⟩:=iA (db:=db) (rb:=rb) (fb:=fb) (eb:=eb) (vb:=vb) (ob:=ob) (og:=og) (bI:=bI) (bs:=[b,c]) (b:=b) (by simp);obtain⟨m3,m4⟩:=iA (db:=db) (rb:=rb) (fb:=fb) (eb:=eb) (vb:=vb) (ob:=ob) (og:=og) (bI:=bI) (bs:=[b,c]) (b:=c) (by simp);have hlts:=h2.gI;have hnl:=h1.lt
 have af9:N.pfx≤1000:=by
  have:2^N.au≤2^5:=Nat.pow_le_pow_right (by decide) hdp;omega
 refine(Od nb ob db rb cap og fb bY eb vb cK b.1 b.2 c.1 c.2 bI N.pfx N.au N.kind N.T [X,Y] N.each N.dep N.len w h1 h2 ho.pw.le rfl (fun q hq e=>h4 (e▸hq)) (by omega) (by omega)).mono ?_;rintro e w' ⟨qb,rfl,hb',hq',Fu,hts,hm⟩;have hne:=hts.ne 0 1 b c rfl rfl (by decide);refine⟨qb,rfl,Fu,e6,X,Y,[nb,b.1,b.2],[qb,c.1,c.2], ?_, ?_,e1,e2,e3,e4,e5,fun q hq=> ?_,fun q hq=> ?_,fun q hq hq2=> ?_,hm.more (fun q hq=> ?_)⟩
 ·refine⟨b.1,b.2, ?_,hts.at_ 0 b X rfl rfl,rfl,fun e=>h4 (e▸m1),fun e=>h4 (e▸m2)⟩;unfold kS;simpa[nI]using hb'
 ·refine⟨c.1,c.2, ?_,hts.at_ 1 c Y rfl rfl,rfl,fun e=> ?_,fun e=> ?_⟩
  ·unfold kS;simpa[nI]using hq'
  ·have:=hlts _ m3;omega
  ·have:=hlts _ m4;omega
 ·simp at hq;rcases hq with rfl|rfl|rfl
  ·simp
  ·simp[m1]
  ·simp[m2]
 ·simp at hq;rcases hq with rfl|rfl|rfl
  ·exact .inr Fu
  ·exact .inl (by simp[m3])
  ·exact .inl (by simp[m4])
 ·simp at hq hq2;have g1:=hlts _ m1;have g2:=hlts _ m2
  rcases hq with rfl|rfl|rfl<;>rcases hq2 with e|e|e
  ·omega
  ·exact h4 (e▸m3)
  ·exact h4 (e▸m4)
  ·omega
  ·exact hne.1 e
  ·exact hne.2.1 e
  ·omega
  ·exact hne.2.2.1 e
  ·exact hne.2.2.2 e
 ·simp at hq;rcases hq with rfl|rfl
  ·simp
  ·simp[aW]
end
end
section
variable {w : World} {jb qb rb sb : Nat} {b k : Int} {val : Nat → Value} {ids : List Nat}
def Tz (w:World)(p:Addr):Nat:=match w.cell? p with|some (.int _ n)=>n.toNat|_=>0
def Eu (sb qb:Nat)(w:World):Nat:=Tz w ⟨sb,5,none⟩+Tz w ⟨qb,2,none⟩
theorem dX.meas {c:Nat}(h:dX w sb qb rb jb k (c:Int) val ids):Eu sb qb w=c+ids.length:=by
 obtain⟨s,h1⟩:=h.blk;obtain⟨ring,first,h2⟩:=h.DI;have c5:=aj.cell h1 5;have c2:=h2.blk.cell 2;simp only[gl]at c5 c2;unfold Eu Tz;rw[c5,c2];simp
theorem r9 (h:dX w sb qb rb jb k b val ids):w.cell? ⟨sb,3,none⟩=some (pQ qb)∧w.cell? ⟨sb,4,none⟩=some (.map (some jb)):=by
 obtain⟨s,h1⟩:=h.blk;exact⟨aj.cell h1 3,aj.cell h1 4⟩
theorem dX.head {id:Nat}(h:dX w sb qb rb jb k b val (id::ids)):Calls Tryz.prog 228 #[pQ qb] w fun e w'=>e= .returned (.tuple #[nI id,.bool true])∧w.drew=w':=by
 obtain⟨ring,first,h2⟩:=h.DI
 exact Ti qb rb ring first id ids w h2
theorem dX.abv (h:dX w sb qb rb jb k b val []):Calls Tryz.prog 228 #[pQ qb] w fun e w'=>e= .returned (.tuple #[.int .i64 0,.bool false])∧w=w':=by
 obtain⟨ring,first,h2⟩:=h.DI
 exact L8 qb rb ring first [] w h2
theorem dX.balance (h:dX w sb qb rb jb k b val ids):Calls Tryz.prog 229 #[.pointer (some ⟨sb,5,none⟩)] w fun e w'=>e= .returned (.int .i64 b)∧w=w':=by
 obtain⟨s,h1⟩:=h.blk;exact JI sb b w h1
theorem DT {W0:World}{E:Nat→Addr}{P:MP}{α:Type}{jt:Nat→TypeId}{ja:Nat→Addr}{At:World→List Nat→α→Prop}{can:α→Nat→Prop}{left:α→Nat→Nat}{Stp:α→Nat→α→Prop}(HP:iO W0 E P jt ja At can left Stp)(s:SP)(F:List Nat)(c0:Nat)(hc:c0≤64)(ids:List Nat)(a:α)(x:bL)(hval:∀id,s.val id= .iface (jt id) (.pointer (some (ja id))))(hcan:∀id∈ids,can a id∧id≤1000)(w:World)(h:bD W0 E P At s w F w (c0:Int) ids a F x):
  Calls Tryz.prog 172 #[eG s.sb,mP P] w fun e w'=>∃A cc ended aK a' F' x' b',e= .returned (.slice A ended.length cc)∧w'.ownsRow w.heap.size 3 1 (.slice A ended.length cc) ended.length (dD ended)∧tF left Stp c0 ids a ended aK a'∧bD W0 E P At s w F w' b' aK a' F' x'∧dL x x' 0 c0∧nL P s F' (.slice A ended.length cc):=by
 have hval:=qd hval;have hlen:=qd h.aD.many;have H0:=qd h;have Gt:=qd hcan;obtain⟨F0,Lf⟩:∃F0,F0=F:=⟨_,rfl⟩;unfold eG mP;clear h hcan;rw[←Lf]at H0⊢;clear Lf;go_in;go_wp2;go_loopw [5,6,7] (fun v5 _ _ wr=>∃(c:Nat) (bM e1:List Nat) (a1:α) (F1:List Nat) (x1:bL) (u:Nat),Hid (bD W0 E P At s w F0 wr (c:Int) bM a1 F1 x1)∧wr.ownsRow w.heap.size 3 1 v5 e1.length (dD e1)∧Hid (∀e aK a',tF left Stp c bM a1 e aK a'→tF left Stp c0 ids a (e1++e) aK a')∧(u+c=c0∧e1.length+bM.length=ids.length)∧(∀id∈bM,can a1 id∧id≤1000)∧dL x x1 0 u∧Hid (nL P s F1 v5)) (fun _ _ _ wr=>Eu s.sb s.qb wr)
 case atStart=>exact⟨c0,ids,[],a,F0,x,0,H0,⟨rfl,.inl ⟨rfl,rfl⟩⟩,qd (fun _ _ _ h=>h),⟨by omega,by simp⟩,Gt.out,dL.refl x,qd (fun g hg=>by cases hg)⟩
 case round=>
  obtain⟨c,bM,e1,a1,F1,x1,u,HS,hO,hK,hu,hcan,hCo,Rf⟩:=hrel;obtain⟨A,vc,rfl⟩:=bA hO;have hE1:=HS.out.aD.many;have HM0:=qd HS.out.aD.meas;obtain⟨hu,hE2⟩:=hu;rcases bM with _|⟨id,bM⟩
  ·have HH:=qd HS.out.aD.abv;have HF:=qd (hK.out _ _ _ (tF.nil c a1));have HO:=qd hO;have HC:=qd hCo
   have hu2:u≤c0:=by omega
   obtain⟨Fw,Fx⟩:=r9 HS.out.aD;clear hO hCo hcan;go_wp2_with fail;refine HH.out.mono ?_;rintro x w1 ⟨rfl,rfl⟩;go_wp2;go_ret;exact⟨A,vc,e1,[],a1,F1,x1,_,rfl,HO.out,by simpa using HF.out,HS.out,HC.out.mono (Nat.le_refl _) hu2,Rf.out⟩
  ·have HH:=qd HS.out.aD.head;obtain⟨Fw,Fx⟩:=r9 HS.out.aD;have HO:=qd hO;have HC:=qd hCo;have TA:=qd hcan;have hlo:=hO.lt;clear hO hCo hcan;go_wp2_with fail;refine HH.out.mono ?_;rintro x w1 ⟨rfl,hdr⟩;have hb1:Below wr.heap.size wr w1:=hdr▸(Below.refl _ _).drew;clear hdr;replace HS:=qd (HS.out.below HP hb1);replace HO:=qB hb1 HO;clear Fw Fx HH;obtain⟨Fw,Fx⟩:=r9 HS.out.aD;have HB:=qd HS.out.aD.balance;go_wp2_with fail;refine HB.out.mono ?_;rintro x w2 ⟨rfl,rfl⟩;rcases c with _|c
   ·have HF:=qd (hK.out _ _ _ (tF.broke (id::bM) a1))
    have hu2:u≤c0:=by omega
    clear hK HB;simp only[Int.ofNat_zero]at*;go_wp2;go_ret;exact⟨A,vc,e1,_,a1,F1,x1,_,rfl,HO.out,by simpa using HF.out,HS.out,HC.out.mono (Nat.le_refl _) hu2,Rf.out⟩
   ·have hc0:¬((c+1:Nat):Int)=0:=by omega
    have mQ:=TA.out id (by simp);have hl:=HP.wS HS.out.pool mQ.1;have HJ:=qd (HP.OC mQ.1);obtain⟨Fl,yA⟩:∃Fl,Fl=jy (jt id):=⟨_,rfl⟩;rw[←yA]at hl;have Fy:=qd yA.symm;have HL:=qd hl;have Fz:=qd (yw id mQ.2);have mq:=qd HS.out.aD.map;have HV:=qd (show jA s.val (id::bM) (id:Int)=some (.iface (jt id) (.pointer (some (ja id))))from by rw[yu (by simp),hval.out]);have hle:=HP.le HS.out.pool mQ.1;have IL:=qd mQ;obtain⟨lf,hlf⟩:∃lf,lf=left a1 id:=⟨_,rfl⟩;rw[←hlf]at HL hle;have jm:=qd hlf;clear hl yA mQ HB hlf;go_wp2_with (at_lookup;refine xq rfl _ _ rfl rfl mq.out _ rfl Fz.out _ HV.out ?_);rw[rX HJ.out,Result.andThen_ok,rY HJ.out];rw[show jy (jt id)=Fl from Fy.out];rw[Oper.upon_enter];refine HL.out.mono ?_;rintro x w3 ⟨rfl,hb3⟩;replace HS:=qd (HS.out.below HP hb3);replace HO:=qB hb3 HO;replace mq:=qd HS.out.aD.map;have ad8:=HS.out.size;clear HL Fw Fx hb3 Fy;obtain⟨Fw,Fx⟩:=r9 HS.out.aD;rcases Nat.eq_zero_or_pos lf with h0|h1
    ·subst h0;have OH:=qd (show left a1 id=0 from jm.out.symm);have HR:=qd (BG HP s F0 F1 ((c+1:Nat):Int) (id::bM) a1 x1 id (by simp) IL.out.2 w3 HS.out);simp only[List.erase_cons_head]at HR;simp only[Int.ofNat_zero]at*;go_wp2_with fail;refine HR.out.mono ?_;rintro x w4 ⟨rfl,hs4,ku⟩;have hO4:=jJ HO.out ku (fun g hg hq=>Rf.out g hg (by simp[hq]));have hz4:=ku.size;clear ku HS HO HR Fw Fx mq;have aec:=hs4.size;have HS4:=qd hs4;clear hs4
     have acA:e1.length+1≤100:=by have:=hlen.out;omega
     go_wp2_with (at_builtin;refine iK rfl rfl yt hO4 rfl rfl rfl rfl rfl (by omega) (by omega) ?_;intro v4 w5 dG ig;obtain⟨A4,c4,rfl⟩:=bA dG);obtain⟨hs5,aej⟩:=HS4.out.app HP hO4 (Nat.le_refl _) Rf.out ig;go_roundw
     case rel=>exact⟨c+1,bM,e1++[id],a1,F1,x1,u,qd hs5,by simpa[dD]using dG,qd (fun e aK a' hh=>by rw[List.append_assoc];exact hK.out _ _ _ (.ended OH.out hh)),⟨by omega,by simp at hE2⊢;omega⟩,fun i hi=>TA.out i (by simp[hi]),HC.out,qd (by simpa using aej)⟩
     case measure=>
      rw[hs5.aD.meas,HM0.out];simp
    ·have hl1:¬(lf:Int)<1:=by omega
     have lC:=qd (OD HP s F0 F1 c (by omega) (id::bM) a1 x1 id IL.out.1 (by rw[←jm.out];exact h1) w3 HS.out);unfold mP at lC;go_wp2_with (at_lookup;refine xq rfl _ _ rfl rfl mq.out _ rfl Fz.out _ HV.out ?_);refine lC.out.mono ?_;rintro x w4 ⟨rfl,a2,F2,x2,hst,hco,hs4,hF2,ku⟩;have hO4:=jJ HO.out ku Rf.out;have acB:=Rf.out.step HO.out hF2;have Gu:=qd (And.intro hs4 (And.intro hO4 (And.intro acB (And.intro hst hco))));have hz4:=ku.size;clear hs4 hO4 acB hst hco ku hF2;go_wp2;go_roundw
     case rel=>exact⟨c,id::bM,e1,a2,F2,x2,u+1,qd Gu.out.1,Gu.out.2.1,qd (fun e aK a' hh=>hK.out _ _ _ (.step (by rw[←jm.out];exact h1) Gu.out.2.2.2.1 hh)),⟨by omega,by omega⟩,fun i hi=>⟨HP.jg Gu.out.2.2.2.1 (TA.out i hi).1,(TA.out i hi).2⟩,(HC.out.trans Gu.out.2.2.2.2).mono (by omega) (by omega),qd Gu.out.2.2.1⟩
     case measure=>
      rw[Gu.out.1.aD.meas,HM0.out];omega
end
end Go.Proofs.YtnfjjbpmhcbelaaGreatDoor
