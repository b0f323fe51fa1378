/- A node's Find, Put, Delete, told of its entries. -/
import Derived.Test.YtjfgpnapccdnlaaGreatDoorCoBH
import Derived.Test.YtjfgpnapccdnlaaGreatDoorKit2
import Derived.Test.YtjfgpnapccdnlaaGreatDoorCoBU
namespace Go.Proofs.YtjfgpnapccdnlaaGreatDoor
set_option maxHeartbeats 2000000
open Go.RowKit dF
section
variable {c l : bF} {cnt gX key p tX : Nat} {V w' : World} {TX : aD} {S : List Nat}
theorem EL (hp:c.p=(p:Int))(h:0≤l.p):∀n,0≤(gB l c n).p∧(gB l c n).p≤l.p+(p*n:Nat)
 |0=>⟨h,by show l.p≤_;omega⟩
 |n+1=>by
  obtain⟨h1,h2⟩:=EL hp h n;show 0≤r9 _ _∧r9 _ _≤_;rw[hp,Nat.mul_succ];unfold r9 oI;generalize(gB l c n).p=a at*;generalize p*n=b at*;omega
theorem EM (hp:c.u=(p:Int))(h:0≤l.u):∀n,0≤(gB l c n).u∧(gB l c n).u≤l.u+(p*n:Nat)
 |0=>⟨h,by show l.u≤_;omega⟩
 |n+1=>by
  obtain⟨h1,h2⟩:=EM hp h n;show 0≤r9 _ _∧r9 _ _≤_;rw[hp,Nat.mul_succ];unfold r9 oI;generalize(gB l c n).u=a at*;generalize p*n=b at*;omega
theorem Jl (x:bJ)(n:Nat):dV x (x.add cP n) n 0:=fun h1 h2=>by
 obtain⟨a,b⟩:=EL (c:=cP) (p:=1) rfl h1 n;obtain⟨c,d⟩:=EM (c:=cP) (p:=0) rfl h2 n;exact⟨a,by simpa[bJ.add]using b,c,by simpa[bJ.add]using d⟩
theorem PS (x:bJ)(n:Nat):dV x (x.add cV n) 0 0:=fun h1 h2=>by
 obtain⟨a,b⟩:=EL (c:=cV) (p:=0) rfl h1 n;obtain⟨c,d⟩:=EM (c:=cV) (p:=0) rfl h2 n;exact⟨a,by simpa[bJ.add]using b,c,by simpa[bJ.add]using d⟩
theorem sU (x:bJ)(k:Nat):dV x (x.add (cU (k:Int)) 1) 0 k:=fun h1 h2=>by
 obtain⟨a,b⟩:=EL (c:=cU (k:Int)) (p:=0) rfl h1 1;obtain⟨c,d⟩:=EM (c:=cU (k:Int)) (p:=k) rfl h2 1;exact⟨a,by simpa[bJ.add]using b,c,by simpa[bJ.add]using d⟩
theorem yE {w U:World}(h:Below w.heap.size w V)(k:Below V.heap.size V U):Below w.heap.size w U:=((Mod.of_below h []).trans (Mod.of_below k []) (by simp) (by simp)).Br
theorem yg.next {w:World}{db hash:Nat}{P:MP}{x:bJ}(h:yg w db P x c key hash tX gX TX cnt)(hV:Below w.heap.size w V):yg V db P x c key hash tX gX TX cnt:=fun U hU=>h U (yE hV hU)
theorem Through.out {w:World}{R:World→Prop}(h:Through (fun V V'=>R V'∧Mod S V V') w w')(_:∀k∈S,k<w.heap.size)(hR:∀(V':World) (g:Nat),w.heap.size≤g→R V'→Mod [g] V' w'→R w'):R w'∧Mod S w w':=by
 obtain⟨V,V',g,h1,⟨h2,h3⟩,h4,h5,h6⟩:=h;exact⟨hR V' g h4 h2 h6,((Mod.of_below h1 S).then h3).trans h6 (fun _ hh _=>hh) (fun q hq hl=>by simp at hq;omega)⟩
section
variable {W0 : World} {E : Nat → Addr} {H : Nat → Nat} {nb : Nat} {F : List Nat} {N : Nd} {P : MP} {x : bJ} {w : World}
theorem Wr.world {del add:List ay}{X:aD}(_:aQ w P x)(hF:P.mb∉F)(W:Whr w H nb F N P x cP key tX gX cnt TX)(h1:TabAt w' tX gX X)(hc:BL del add TX X)(ha:wV H N del add)(hh:∀e∈add,e.hash=H key)(hd:del=[]→(aK TX.gs key (H key)).1=none)(h2:Mod [P.mb,tX,gX] w w')(h3:aQ w' P (x.add cP cnt)):
  ∃x' N',bL w' nb F N'∧Wr H del add N N'∧aQ w' P x'∧dV x x' 128 0∧Mod (P.mb::F) w w':=by
 obtain⟨N',n1,n2⟩:=W.swap w' _ del add _ h1 hc ha hh hd h2 (fun q hq dK=>by
  simp at dK;rcases dK with rfl|rfl|rfl
  ·exact absurd hq hF
  ·exact .inl rfl
  ·exact .inr rfl)
 exact⟨_,N',n1,n2,h3,(Jl x cnt).mono W.aak (Nat.le_refl _),h2.more fun k hk=>by
  simp at hk;rcases hk with rfl|rfl|rfl
  ·simp
  ·simp[W.inT]
  ·simp[W.inG]⟩
theorem GK {w:World}(hV:Below w.heap.size w V)(h:Mod S V w'):Mod S w w':=(Mod.of_below hV S).then h
theorem D5 (e:ay)(more:Bool)(h:bL w nb F N)(ho:eu H N)(hh:e.hash=H e.key)(h64:e.hash<18446744073709551616)(hv:e.val<18446744073709551616)(hM:aQ w P x)(hE:Env W0 E w)(hb0:W0.heap.size≤P.mb)(hF:P.mb∉F)(e0:ay)(he0:e0∈N.ents)(hk:e0.key=e.key):
  Calls Tryz.prog 59 #[aR nb,aN (some ⟨P.mb,P.mo,none⟩) cP,aW e,.bool more] w fun y w'=>y= .returned (.tuple #[.bool false,.nilIface])∧∃x' N',bL w' nb F N'∧Wr H [e0] [{e0 with val:=e.val}] N N'∧aQ w' P x'∧dV x x' 128 0∧Mod (P.mb::F) w w':=by
 obtain⟨tX,gX,cnt,TX,W⟩:=Gy cP e.key h ho (hh▸h64) hM hE hb0 hF;have hmt:P.mb≠tX:=fun e=>hF (e▸W.inT);have lX:P.mb≠gX:=fun e=>hF (e▸W.inG);have hmn:P.mb≠nb:=fun e=>hF (e▸h.Nz)
 obtain⟨i,s,hs1,hs2⟩:∃i s,(aK TX.gs e.key (H e.key)).1=some (i,s)∧aG TX.gs i s= .full e0:=by
  rcases W.aal with⟨e1,he,hk',_,i,s,h1,h2⟩|⟨h1,_⟩
  ·have h3:=lI ho.keys he;have h4:=lI ho.keys he0;rw[hk']at h3;rw[hk,h3]at h4;cases h4;exact⟨i,s,h1,h2⟩
  ·exact absurd hk (h1 e0 he0)
 have hch:=Ux (v:=e.val) W.tg hs2
 have hh0:∀y∈[({e0 with val:=e.val}:ay)],y.hash=H e.key:=fun y hy=>by
  simp at hy;subst hy;rw[←hk];exact(ho.hash e0 he0).1.hash
 rw[←hh]at hs1;rcases W.call with⟨hb,hc⟩|⟨tb,db,hb,hS⟩
 ·refine(J4 nb tX gX N.pfx N.au N.kind TX P x cP e more w hb W.tab W.tg.ok.pow h64 hM hE hb0 hmt lX hmn W.ne.1 W.ne.2 i s hs1 e0 hs2).mono fun y w' ⟨h1,h2,h3,h4⟩=>⟨h1,Wr.world hM hF W h2 hch (LB ho he0 hv) hh0 (by simp) h4 (by rw[hc,←hh];exact h3)⟩
 ·rw[←hh]at hS;refine(wm nb tb db N.pfx N.au N.kind P cP e more false .nilIface (fun V V'=>TabAt V' tX gX (replaceM TX i s e.val e0)∧aQ V' P (x.add cP cnt)∧Mod [P.mb,tX,gX] V V') w hb fun V hV=> ?_).mono fun y w' ⟨h1,V,hV,h2,h3,h4⟩=>⟨h1,Wr.world hM hF W h2 hch (LB ho he0 hv) hh0 (by simp) (GK hV h4) h3⟩;exact J2 db tX gX cnt TX P x cP e V (hS.next hV) (W.tab.below hV) (hM.below hV).lt hmt lX more i s hs1 e0 hs2
theorem UH (e:ay)(h:bL w nb F N)(ho:eu H N)(he:nu H e)(ht:dZ e.hash N.au=N.pfx)(hM:aQ w P x)(hE:Env W0 E w)(hb0:W0.heap.size≤P.mb)(hF:P.mb∉F)(hk:∀y∈N.ents,y.key≠e.key)(hf:N.ents.length+1≤192)(hs:N.sl=0):
  Calls Tryz.prog 59 #[aR nb,aN (some ⟨P.mb,P.mo,none⟩) cP,aW e,.bool true] w fun y w'=>y= .returned (.tuple #[.bool true,.nilIface])∧∃x' N',bL w' nb F N'∧Wr H [] [e] N N'∧aQ w' P x'∧dV x x' 128 0∧Mod (P.mb::F) w w':=by
 obtain⟨tX,gX,cnt,TX,W⟩:=Gy cP e.key h ho (he.hash▸he.h64) hM hE hb0 hF;have hmt:P.mb≠tX:=fun e=>hF (e▸W.inT);have lX:P.mb≠gX:=fun e=>hF (e▸W.inG);have hmn:P.mb≠nb:=fun e=>hF (e▸h.Nz)
 obtain⟨I6,hroom⟩:(∀y∈aI TX.gs,y.key≠e.key)∧load TX+1≤7*TX.gs.length:=by
  rcases W.aal with⟨e1,he1,hk',_⟩|⟨_,h2,_,h3⟩
  ·exact absurd hk' (hk e1 he1)
  ·exact⟨h2,h3 hs⟩
 obtain⟨hs1,i,s,hs2,hfr⟩:=Sk W.tg I6 (by omega);have hch:=Pk W.tg hfr I6;have hld:=W.tg.Uw
 have hh0:∀y∈[e],y.hash=H e.key:=fun y hy=>by simp at hy;subst hy;exact he.hash
 have hd:([]:List ay)=[]→(aK TX.gs e.key (H e.key)).1=none:=fun _=>by rw[←he.hash];exact hs1
 rcases W.call with⟨hb,hc⟩|⟨tb,db,hb,hS⟩
 ·refine(Pg nb tX gX N.pfx N.au N.kind TX P x cP e w hb W.tab W.tg.ok.pow he.h64 hM hE hb0 hmt lX hmn W.ne.1 W.ne.2 hs1 i s hs2 W.tg.ok.small (by omega)).mono fun y w' ⟨h1,h2,h3,h4⟩=>⟨h1,Wr.world hM hF W h2 hch (Sq ho he ht hk hf hs) hh0 hd h4 (by rw[hc,←he.hash];exact h3)⟩
 ·rw[←he.hash]at hS;refine(wm nb tb db N.pfx N.au N.kind P cP e true true .nilIface (fun V V'=>TabAt V' tX gX (jA TX i s e)∧aQ V' P (x.add cP cnt)∧Mod [P.mb,tX,gX] V V') w hb fun V hV=> ?_).mono fun y w' ⟨h1,V,hV,h2,h3,h4⟩=>⟨h1,Wr.world hM hF W h2 hch (Sq ho he ht hk hf hs) hh0 hd (GK hV h4) h3⟩;exact O4 db tX gX cnt TX P x cP e V (hS.next hV) (W.tab.below hV) (hM.below hV).lt hmt lX W.tg.ok.pow he.h64 hs1 i s hs2 W.tg.ok.small (by omega)
theorem Rn (e:ay)(h:bL w nb F N)(ho:eu H N)(hh:e.hash=H e.key)(h64:e.hash<18446744073709551616)(hM:aQ w P x)(hE:Env W0 E w)(hb0:W0.heap.size≤P.mb)(hF:P.mb∉F)(hk:∀y∈N.ents,y.key≠e.key):
  Calls Tryz.prog 59 #[aR nb,aN (some ⟨P.mb,P.mo,none⟩) cP,aW e,.bool false] w fun y w'=>y= .returned (.tuple #[.bool false,jO E 2])∧∃x',aQ w' P x'∧dV x x' 128 0∧Mod [P.mb] w w':=by
 obtain⟨tX,gX,cnt,TX,W⟩:=Gy cP e.key h ho (hh▸h64) hM hE hb0 hF;have hmt:P.mb≠tX:=fun e=>hF (e▸W.inT);have lX:P.mb≠gX:=fun e=>hF (e▸W.inG);have hmn:P.mb≠nb:=fun e=>hF (e▸h.Nz)
 have hsk:(aK TX.gs e.key e.hash).1=none:=by
  rcases W.aal with⟨e1,he1,hk',_⟩|⟨_,_,h2,_⟩
  ·exact absurd hk' (hk e1 he1)
  ·rw[hh];exact h2
 rcases W.call with⟨hb,hc⟩|⟨tb,db,hb,hS⟩
 ·exact(M5 nb tX gX N.pfx N.au N.kind TX P x cP e w hb W.tab W.tg.ok.pow h64 hM hE hb0 hmt lX hmn W.ne.1 W.ne.2 hsk).mono fun y w' ⟨h1,_,h3,h4⟩=>⟨h1,_,h3,(Jl x _).mono (by rw[hh,←hc];exact W.aak) (Nat.le_refl _),h4⟩
 ·rw[←hh]at hS;refine(wm nb tb db N.pfx N.au N.kind P cP e false false (jO E 2) (fun V V'=>aQ V' P (x.add cP cnt)∧Mod [P.mb] V V') w hb fun V hV=> ?_).mono fun y w' ⟨h1,V,hV,h3,h4⟩=>⟨h1,_,h3,(Jl x _).mono W.aak (Nat.le_refl _),GK hV h4⟩;exact(MW db tX gX cnt TX P x cP e V (hS.next hV) (W.tab.below hV) (hM.below hV).lt hmt lX (hE.next hV) hb0 hsk).mono fun y V' ⟨h1,_,h3,h4⟩=>⟨h1,h3,h4⟩
end
end
section
variable {a b f : ay} {l' : List ay} {o : Option ay} {Ts : List aD}
def fP (f:ay)(l:List ay):Option ay→Prop
 |none=>∀e∈l,bA e f=true
 |some m=>m∈l∧bA m f=false∧∀e∈l,bA e f=false→bA e m=false
theorem Jm {c:ay}(h:bA a b=true)(k:bA b c=true):bA a c=true:=by
 simp[bA]at*;omega
theorem zS (a:ay):bA a a=false:=by simp[bA]
theorem PU {l:List ay}(h:fP f l o)(e:ay):fP f (l++[e]) (mP f o e):=by
 unfold mP
 cases hl:bA e f with
 |true=>
  simp only[Bool.not_true,Bool.false_and,Bool.false_eq_true,if_false]
  cases o with
  |none=>
   intro x hx;rcases List.mem_append.1 hx with h1|h1
   ·exact h x h1
   ·simp at h1;subst h1;exact hl
  |some m=>
   refine⟨List.mem_append_left _ h.1,h.2.1,fun x hx kg=> ?_⟩;rcases List.mem_append.1 hx with h1|h1
   ·exact h.2.2 x h1 kg
   ·simp at h1;subst h1;rw[hl]at kg;cases kg
 |false=>
  cases o with
  |none=>
   simp only[Bool.not_false,Bool.true_and,if_true];refine⟨by simp,hl,fun x hx kg=> ?_⟩;rcases List.mem_append.1 hx with h1|h1
   ·rw[h x h1]at kg;cases kg
   ·simp at h1;subst h1;exact zS _
  |some m=>
   simp only[Bool.not_false,Bool.true_and]
   cases hm:bA e m with
   |true=>
    rw[if_pos rfl];refine⟨by simp,hl,fun x hx kg=> ?_⟩;rcases List.mem_append.1 hx with h1|h1
    ·cases hxe:bA x e with
     |false=>rfl
     |true=>have:=h.2.2 x h1 kg;rw[Jm hxe hm]at this;cases this
    ·simp at h1;subst h1;exact zS _
   |false=>
    rw[if_neg (by simp)];refine⟨List.mem_append_left _ h.1,h.2.1,fun x hx kg=> ?_⟩;rcases List.mem_append.1 hx with h1|h1
    ·exact h.2.2 x h1 kg
    ·simp at h1;subst h1;exact hm
theorem D6 (f:ay):∀(es l:List ay) (o:Option ay),fP f l o→fP f (l++es) (dJ f o es)
 | [],l,o,h=>by simpa[dJ]using h
 |e::es,l,o,h=>by
  have:=D6 f es (l++[e]) _ (PU h e);simpa[dJ]using this
theorem LX (f:ay)(es:List ay):fP f es (dJ f none es):=by
 have:=D6 f es [] none (by intro e he;cases he);simpa using this
theorem Nh {l:List ay}{o':Option ay}(h:fP f l o)(h':fP f l' o'):fP f (l++l') (sJ o o'):=by
 unfold sJ
 cases o' with
 |none=>
  cases o with
  |none=>
   intro x hx;rcases List.mem_append.1 hx with h1|h1
   ·exact h x h1
   ·exact h' x h1
  |some m=>
   refine⟨List.mem_append_left _ h.1,h.2.1,fun x hx kg=> ?_⟩;rcases List.mem_append.1 hx with h1|h1
   ·exact h.2.2 x h1 kg
   ·rw[h' x h1]at kg;cases kg
 |some e=>
  cases o with
  |none=>
   refine⟨List.mem_append_right _ h'.1,h'.2.1,fun x hx kg=> ?_⟩;rcases List.mem_append.1 hx with h1|h1
   ·rw[h x h1]at kg;cases kg
   ·exact h'.2.2 x h1 kg
  |some m=>
   simp only
   cases hm:bA e m with
   |true=>
    rw[if_pos rfl];refine⟨List.mem_append_right _ h'.1,h'.2.1,fun x hx kg=> ?_⟩;rcases List.mem_append.1 hx with h1|h1
    ·cases hxe:bA x e with
     |false=>rfl
     |true=>have:=h.2.2 x h1 kg;rw[Jm hxe hm]at this;cases this
    ·exact h'.2.2 x h1 kg
   |false=>
    rw[if_neg (by simp)];refine⟨List.mem_append_left _ h.1,h.2.1,fun x hx kg=> ?_⟩;rcases List.mem_append.1 hx with h1|h1
    ·exact h.2.2 x h1 kg
    ·cases hxm:bA x m with
     |false=>rfl
     |true=>
      have h2:=h'.2.2 x h1 kg
      have:bA e m=true:=by
       simp[bA]at*;omega
      rw[hm]at this;cases this
theorem Cy (f:ay):∀(Ts:List aD) (l:List ay) (o:Option ay),fP f l o→fP f (l++bX Ts) (Ts.foldl (fun o T=>sJ o (dJ f none (aI T.gs))) o)
 | [],l,o,h=>by simpa[bX]using h
 |T::Ts,l,o,h=>by
  have:=Cy f Ts (l++aI T.gs) _ (Nh h (LX f (aI T.gs)));simpa[bX]using this
theorem Jo (f:ay)(Ts:List aD):fP f (bX Ts) (fO f Ts):=by
 have:=Cy f Ts [] none (by intro e he;cases he);simpa[fO]using this
theorem gP.snoc {w:World}{bs:List (Nat×Nat)}{ob og:Nat}{T:aD}(h:gP w bs Ts)(hT:TabAt w ob og T)(h1:ob∉fG bs)(h2:og∉fG bs):gP w (bs++[(ob,og)]) (Ts++[T]):=by
 have hcase:∀(i:Nat) (b:Nat×Nat),(bs++[(ob,og)])[i]?=some b→bs[i]?=some b∨(i=bs.length∧b=(ob,og)):=fun i b hb=>by
  by_cases hi:i<bs.length
  ·rw[List.getElem?_append_left hi]at hb;exact .inl hb
  ·rw[List.getElem?_append_right (by omega)]at hb
   have h0:i-bs.length=0:=by
    have:=(List.getElem?_eq_some_iff.1 hb).1;simp at this;omega
   rw[h0]at hb;simp at hb;exact .inr ⟨by omega,hb.symm⟩
 refine⟨by simp[h.len],fun i b X hb hX=> ?_,fun i j b c hb hc hij=> ?_⟩
 ·rcases hcase i b hb with h3|⟨rfl,rfl⟩
  ·rw[List.getElem?_append_left (by rw[←h.len];exact(List.getElem?_eq_some_iff.1 h3).1)]at hX;exact h.at_ i b X h3 hX
  ·rw[h.len,List.getElem?_append_right (Nat.le_refl _),Nat.sub_self]at hX;cases hX;exact hT
 ·have hf:∀b∈bs,b.1≠ob∧b.1≠og∧b.2≠ob∧b.2≠og:=fun b hb=>
   ⟨fun e=>h1 (e▸dG.2 ⟨b,hb,.inl rfl⟩),fun e=>h2 (e▸dG.2 ⟨b,hb,.inl rfl⟩),fun e=>h1 (e▸dG.2 ⟨b,hb,.inr rfl⟩),fun e=>h2 (e▸dG.2 ⟨b,hb,.inr rfl⟩)⟩
  rcases hcase i b hb with h3|⟨rfl,rfl⟩<;>rcases hcase j c hc with h4|⟨rfl,rfl⟩
  ·exact h.ne i j b c h3 h4 hij
  ·exact hf b (List.mem_of_getElem? h3)
  ·obtain⟨a1,a2,a3,a4⟩:=hf c (List.mem_of_getElem? h4);exact⟨a1.symm,a3.symm,a2.symm,a4.symm⟩
  ·exact absurd rfl hij
theorem adz (d d' h:Nat):cO 1 d h=cO 1 d' h:=by unfold cO;rw[if_pos rfl,if_pos rfl]
theorem aaq (d d':Nat):uy 1 d=uy 1 d':=by funext st e;unfold uy;rw[adz d d']
theorem Xw (d d':Nat):∀(es:List ay) (Ts:List aD),Fits 1 d Ts es→Fits 1 d' Ts es
 | [],_,_=>trivial
 |e::es,Ts,h=>by
  unfold Fits at h⊢;rw[adz d' d];exact⟨h.1,Xw d d' es _ h.2⟩
theorem aar {N:Nd}{es:List ay}(h:Fits N.many N.au Ts es):Fits N.many N.dep Ts es:=by
 unfold Nd.dep;split
 ·next h1=>rw[h1]at h⊢;exact Xw _ _ _ _ h
 ·exact h
theorem Xx (N:Nd)(st:bJ×List aD)(es:List ay):eD N.many N.dep st es=eD N.many N.au st es:=by
 unfold Nd.dep;split
 ·next h1=>rw[h1];unfold eD;rw[aaq]
 ·rfl
section
variable {W0 : World} {E : Nat → Addr} {H : Nat → Nat} {nb : Nat} {F : List Nat} {N : Nd} {P : MP} {x : bJ} {w : World}
theorem adA (h:bL w nb F N):∃tb dv,aj w nb 186 (kT N tb dv):=by
 unfold bL at h;split at h
 ·obtain⟨tb,gb,h1,_⟩:=h;exact⟨_,_,h1⟩
 ·obtain⟨db,rb,cap,ob,og,bl,h1,_⟩:=h;exact⟨_,_,h1⟩
 ·obtain⟨db,rb,cap,ob,og,fb,bQ,eb,vb,bT,bE,bs,h1,_⟩:=h;exact⟨_,_,h1⟩
theorem LY (h:bL w nb F N):Calls Tryz.prog 166 #[aR nb] w fun e w'=>e= .returned (.tuple #[.int .i64 (N.pfx:Int),.int .i64 (N.au:Int)])∧w.drew=w':=by
 obtain⟨tb,dv,hb⟩:=adA h;exact Ri nb tb N.pfx N.au N.kind dv w hb
theorem acs (h:bL w nb F N)(ho:eu H N):Calls Tryz.prog 301 #[aR nb] w fun e w'=>e= .returned (.int .i64 (N.left:Int))∧Below w.heap.size w w':=by
 have hl:=ho.pw.le;have bZ:=ho.ph;unfold lT at bZ;unfold bL at h;unfold Nd.left
 cases hp:N.ph with
 |idle=>
  rw[hp]at h;obtain⟨tb,gb,h1,_⟩:=h;exact(Na nb tb N.pfx N.au N.kind w h1).mono fun e w' ⟨a,b⟩=>⟨a,b▸Below.refl _ _⟩
 |nN k=>
  rw[hp]at h;obtain⟨db,rb,cap,ob,og,bl,h1,h2,h3,_⟩:=h;have:=MS db rb cap ob og bl N.T N.each N.dep k w h2 hl;rw[h3]at this;exact Az nb ob db N.pfx N.au N.kind _ (fun V V'=>Below V.heap.size V V') w h1 this
 |iX Ts next=>
  rw[hp]at h bZ;obtain⟨db,rb,cap,ob,og,fb,bQ,eb,vb,bT,bE,bs,h1,h2,h3,_⟩:=h
  have:=qG db rb cap ob og fb bQ eb vb bT bE bs N.T Ts N.each N.dep next w h2 hl bZ.2.1
  exact(Az nb ob db N.pfx N.au N.kind _ (fun V V'=>V.drew=V') w h1 this).mono fun e w' ⟨a,b⟩=>⟨a,b▸(Below.refl _ _).drew⟩
theorem Ni (gl:Nat)(h:bL w nb F N)(hb:N.ph.busy=true):Calls Tryz.prog 95 #[aR nb,.int .i64 (gl:Int)] w fun e w'=>e= .returned (.tuple #[.int .i64 0,.bool false])∧Below w.heap.size w w':=by
 unfold bL at h
 cases hp:N.ph with
 |idle=>rw[hp]at hb;cases hb
 |nN k=>
  rw[hp]at h;obtain⟨db,rb,cap,ob,og,bl,h1,_⟩:=h;exact(zo nb ob db N.pfx N.au N.kind gl w h1).mono fun e w' ⟨a,b⟩=>⟨a,b▸Below.refl _ _⟩
 |iX Ts next=>
  rw[hp]at h;obtain⟨db,rb,cap,ob,og,fb,bQ,eb,vb,bT,bE,bs,h1,_⟩:=h;exact(zo nb ob db N.pfx N.au N.kind gl w h1).mono fun e w' ⟨a,b⟩=>⟨a,b▸Below.refl _ _⟩
theorem Nj (gl:Nat)(h:bL w nb F N)(ho:eu H N)(hi:N.ph= .idle):Calls Tryz.prog 95 #[aR nb,.int .i64 (gl:Int)] w fun e w'=>e= .returned (.tuple #[.int .i64 ((ji N.T.live N.T.bO N.len N.au gl:Nat):Int),.bool (eT N.T.live N.T.bO N.len N.au gl)])∧Below w.heap.size w w':=by
 unfold bL at h;rw[hi]at h;obtain⟨tb,gb,h1,h2,_⟩:=h;exact J6 nb tb gb N.au gl N.pfx N.kind N.T w h1 h2 ho.tg.ok
theorem aas (gl kind:Nat)(hgl:gl≤5)(h:bL w nb F N)(ho:eu H N)(hi:N.ph= .idle)(hk:ji N.T.live N.T.bO N.len N.au gl=kind)(h0:kind≠0):Calls Tryz.prog 97 #[aR nb,.int .i64 (kind:Int)] w fun e w'=>e= .returned .nilIface∧∃F',bL w' nb F' (N.start kind)∧(∀q∈F',q∈F∨w.heap.size≤q)∧Mod [nb] w w':=by
 obtain⟨hs,_⟩:=Po ho hi hgl hk h0;have bZ:=hs.ph;have hK:jU (N.start kind):=bZ.1;obtain⟨k1,k2,k3,k4,k5⟩:=iY (N:=N.start kind) ho.pw hK;have hd:=ho.deep
 have hd':N.au<5∨(N.start kind).many=1∧N.au≤5:=by
  rcases hK with h1|h1|h1
  ·exact .inr ⟨by unfold Nd.many;rw[h1];rfl,hd⟩
  ·exact .inr ⟨by unfold Nd.many;rw[h1.1];rfl,hd⟩
  ·exact .inl h1.2.2
 unfold bL at h;rw[hi]at h;obtain⟨tb,gb,h1,h2,rfl,h3,h4⟩:=h;refine(Uv nb tb gb kind (N.start kind).each (N.start kind).many N.au N.pfx N.kind N.T hd' w h1 h2 ho.tg.ok k1 k5 h3 h4).mono ?_;rintro e w' ⟨rfl,db,hb,⟨rb,cap,bl,l1,l2,l3,l4,qx⟩,hm⟩;have hnl:=h1.lt;refine⟨rfl,nb::bC db rb tb gb bl, ?_,fun q hq=> ?_,hm⟩
 ·unfold bL;show∃db rb cap ob og bl,_;refine⟨db,rb,cap,tb,gb,bl,hb,qx,l4,rfl,fun hh=> ?_⟩;simp only[bC,List.mem_cons]at hh;rcases hh with e|e|e|e|e
  ·omega
  ·omega
  ·exact h3 e
  ·exact h4 e
  ·have:=l3 nb e;omega
 ·simp only[bC,List.mem_cons]at hq;rcases hq with e|e|e|e|e|e
  ·exact .inl (by simp[e])
  ·exact .inr (by omega)
  ·exact .inr (by omega)
  ·exact .inl (by simp[e])
  ·exact .inl (by simp[e])
  ·exact .inr (l3 q e)
theorem aat (key hash:Nat)(h:bL w nb F N)(ho:eu H N)(hM:aQ w P x)(hE:Env W0 E w)(hb0:W0.heap.size≤P.mb)(hF:P.mb∉F):
  Calls Tryz.prog 171 #[aR nb,aN (some ⟨P.mb,P.mo,none⟩) cP,.int .u64 (hash:Int),.int .u64 (key:Int)] w fun e w'=>∃o x',e= .returned (qh o)∧fP ⟨key,0,hash⟩ N.ents o∧aQ w' P x'∧dV x x' 192 0∧Mod [P.mb] w w':=by
 have hl:=ho.pw.le;have bZ:=ho.ph;unfold lT at bZ;unfold bL at h
 have fin:∀(w':World) (n:Nat),Through (fun V V'=>aQ V' P (x.add cP n)∧Mod [P.mb] V V') w w'→n≤192→∃x',aQ w' P x'∧dV x x' 192 0∧Mod [P.mb] w w':=fun w' n ht hn=>by
  obtain⟨h1,h2⟩:=ht.out (by simpa using hM.lt) (fun V' g hg hR hm=>hR.mod hm (by have:=hM.lt;simp;omega));exact⟨_,h1,(Jl x n).mono hn (Nat.le_refl _),h2⟩
 cases hp:N.ph with
 |idle=>
  rw[hp]at h;obtain⟨tb,gb,h1,h2,rfl,h3,h4⟩:=h
  have hE':N.ents=aI N.T.gs:=by unfold Nd.ents;rw[hp];rfl
  refine(J3 nb tb N.pfx N.au N.kind hash key P cP ((dJ ⟨key,0,hash⟩ none (aI N.T.gs)).getD ⟨0,0,0⟩) (dJ ⟨key,0,hash⟩ none (aI N.T.gs)).isSome [P.mb] (fun V V'=>aQ V' P (x.add cP N.T.gs.length)∧Mod [P.mb] V V') w h1 (by simpa using hM.lt) fun V hV=> ?_).mono fun e w' ⟨a,b⟩=> ?_
  ·exact(FL tb gb N.T P x cP hash key hl V (h2.below hV) (hM.below hV) (hE.next hV) (fun e=>hF (by simp[e])) (fun e=>hF (by simp[e])) hb0).mono fun e V' ⟨a,b,c⟩=>⟨a,c,b,c⟩
  ·obtain⟨x',c,d⟩:=fin w' _ b (by unfold Nd.len at hl;omega);exact⟨_,x',a,by rw[hE'];exact LX _ _,c,d⟩
 |nN k=>
  rw[hp]at h;obtain⟨db,rb,cap,ob,og,bl,h1,h2,h3,rfl,h4⟩:=h
  have hE':N.ents=bX [N.T]:=by unfold Nd.ents;rw[hp];simp[AJ,bX]
  have nK:P.mb≠ob:=fun e=>hF (by simp[bC,e]);have hog:P.mb≠og:=fun e=>hF (by simp[bC,e]);refine(zn nb ob db N.pfx N.au N.kind hash key P cP ((fO ⟨key,0,hash⟩ [N.T]).getD ⟨0,0,0⟩) (fO ⟨key,0,hash⟩ [N.T]).isSome [P.mb] (fun V V'=>aQ V' P (x.add cP (sK [N.T]))∧Mod [P.mb] V V') w h1 (by simpa using hM.lt) fun V hV=> ?_).mono fun e w' ⟨a,b⟩=> ?_
  ·have h2':=h2.mod (Mod.of_below hV []) (by simp)
   have hts:gP V [(ob,og)] [N.T]:=by
    have:=(gP.mk (w:=V) (bs:=[]) (Ts:=[]) rfl (fun j b T hb=>by simp at hb) (fun i j b c hb=>by simp at hb)).snoc h2'.tab (by simp[fG]) (by simp[fG]);simpa using this
   exact(I9 db ob 0 none [] (by simp) _ _ _ _ [(ob,og)] [N.T] P x cP hash key V h2'.blk ⟨by simp[ptrs],fun hh=>by simp at hh⟩ rfl hts (fun T hT=>by simp at hT;subst hT;exact hl) (hM.below hV) (hE.next hV) hb0 (fun b hb=>by simp at hb;subst hb;exact⟨nK,hog⟩)).mono fun e V' ⟨a,b,c⟩=>⟨a,c,b,c⟩
  ·obtain⟨x',c,d⟩:=fin w' _ b (by unfold sK;unfold Nd.len at hl;simp;omega);exact⟨_,x',a,by rw[hE'];exact Jo _ _,c,d⟩
 |iX Ts next=>
  rw[hp]at h bZ;obtain⟨db,rb,cap,ob,og,fb,bQ,eb,vb,bT,bE,bs,h1,h2,h3,rfl,h4⟩:=h;obtain⟨g1,g2,g3,g4,g5⟩:=bZ;obtain⟨k1,k2,k3,k4,_⟩:=iY ho.pw g1
  have hE':N.ents=bX (Ts++[N.T]):=by unfold Nd.ents;rw[hp];simp[AJ,bX]
  have hg:∀T∈Ts++[N.T],T.gs.length≤64:=fun T hT=>by
   rcases List.mem_append.1 hT with h5|h5
   ·obtain⟨j,hj⟩:=List.getElem?_of_mem h5;rw[(g3.tg j T hj).2];exact k1.le
   ·simp at h5;subst h5;exact hl
  have hsum:∀l:List aD,(∀T∈l,T.gs.length≤64)→sK l≤64*l.length:=fun l=>by
   induction l with
   |nil=>intro _;simp[sK]
   |cons T l ih=>
    intro hh;have h6:=ih (fun X hX=>hh X (by simp[hX]));have h7:=hh T (by simp);unfold sK at h6⊢;simp only[List.map_cons,List.sum_cons,List.length_cons];omega
  have hs:=hsum _ hg;have hlen:=g3.len;rw[List.length_append,List.length_singleton,hlen]at hs;refine(zn nb ob db N.pfx N.au N.kind hash key P cP ((fO ⟨key,0,hash⟩ (Ts++[N.T])).getD ⟨0,0,0⟩) (fO ⟨key,0,hash⟩ (Ts++[N.T])).isSome [P.mb] (fun V V'=>aQ V' P (x.add cP (sK (Ts++[N.T])))∧Mod [P.mb] V V') w h1 (by simpa using hM.lt) fun V hV=> ?_).mono fun e w' ⟨a,b⟩=> ?_
  ·have h2':=h2.mod (Mod.of_below hV []) (by simp);have hnd:=h2.nd;unfold aS at hnd;simp only[List.nodup_cons,List.mem_cons,List.mem_append,not_or]at hnd;obtain⟨_,_,_,_,_,⟨_,_,f8⟩,⟨_,g8⟩,_⟩:=hnd;have hts:=h2'.tabs.snoc h2'.tab f8 g8
   exact(I9 db ob bQ (some ⟨fb,0,none⟩) (bs.map Prod.fst) (by rw[List.length_map];omega) _ _ _ _ (bs++[(ob,og)]) (Ts++[N.T]) P x cP hash key V (by rw[List.length_map];exact h2'.blk) (fA.reads h2'.fresh) (by simp) hts hg (hM.below hV) (hE.next hV) hb0 (fun b hb=>by
    rcases List.mem_append.1 hb with h5|h5
    ·obtain⟨m1,m2⟩:=gT (db:=db) (rb:=rb) (fb:=fb) (eb:=eb) (vb:=vb) (ob:=ob) (og:=og) (bE:=bE) h5;exact⟨fun e=>hF (by rw[e];simp[m1]),fun e=>hF (by rw[e];simp[m2])⟩
    ·simp at h5;subst h5
     exact⟨fun e=>hF (by simp[aS,e]),fun e=>hF (by simp[aS,e])⟩)).mono fun e V' ⟨a,b,c⟩=>⟨a,c,b,c⟩
  ·obtain⟨x',c,d⟩:=fin w' _ b (by omega);exact⟨_,x',a,by rw[hE'];exact Jo _ _,c,d⟩
theorem Sy {α:Type}{l:List α}(h:l.length=2):∃a b,l=[a,b]:=by
 match l,h with
 | [a,b],_=>exact⟨a,b,rfl⟩
theorem D7 {nb tb db:Nat}{pfx au job:Int}{R:World→Prop}(h:aj w nb 186 #[.int .i64 pfx,.int .i64 au,.pointer (some ⟨tb,0,none⟩),.int .i64 job,.pointer (some ⟨db,0,none⟩)])(hc:Calls Tryz.prog 303 #[dw db,.pointer (some ⟨P.mb,P.mo,none⟩)] w fun e w'=>e= .returned (.bool true)∧R w'):
  Calls Tryz.prog 302 #[aR nb,.pointer (some ⟨P.mb,P.mo,none⟩)] w fun e w'=>e= .returned (.bool true)∧R w':=J5 nb tb db pfx au job P (fun _ V'=>R V') w h hc
theorem acu (h:bL w nb F N)(ho:eu H N)(hl:1≤N.left)(hM:aQ w P x)(hE:Env W0 E w)(hb0:W0.heap.size≤P.mb)(hF:P.mb∉F)(hbF:∀q∈F,W0.heap.size≤q):
  Calls Tryz.prog 302 #[aR nb,mH P] w fun e w'=>e= .returned (.bool true)∧∃F' x',bL w' nb F' N.step∧(∀q∈F',q∈F∨w.heap.size≤q)∧aQ w' P x'∧dV x x' 0 1∧Mod (P.mb::F) w w':=by
 have hL:=rM N
 have Uu:N.step.dep=N.dep:=by unfold Nd.dep;rw[hL.many,hL.au]
 have hcells:∀tb dv,kT N.step tb dv=kT N tb dv:=fun tb dv=>by unfold kT;rw[hL.pfx,hL.au,hL.kind]
 have bZ:=ho.ph;unfold lT at bZ;unfold bL at h
 cases hp:N.ph with
 |idle=>unfold Nd.left at hl;rw[hp]at hl;simp at hl
 |nN k=>
  rw[hp]at h bZ;obtain⟨db,rb,cap,ob,og,bl,h1,h2,h3,rfl,h4⟩:=h;simp only[List.mem_cons,not_or]at hF;have hst:=MZ db rb cap ob og bl N.T N.each N.dep k P x w h2 hM hE hF.2 hb0 (fun q hq=>hbF q (by simp[hq]));refine(D7 h1 hst).mono ?_;rintro e w' ⟨rfl,hM',hm,hif⟩;have NC:dV x ((x.add cV 1).add (cU 1) 1) 0 1:=(PS x 1).trans (sU _ 1)
  have hnb:nb∉P.mb::bC db rb ob og bl:=by simp only[List.mem_cons,not_or];exact⟨fun e=>hF.1 e.symm,h4⟩
  have hblk:=h1.mod hm hnb
  have hmod:Mod (P.mb::nb::bC db rb ob og bl) w w':=hm.more (fun q hq=>by
   rcases List.mem_cons.1 hq with e|e
   ·simp[e]
   ·simp[e])
  by_cases hk:k+1=N.each*N.many
  ·have hP:N.step.ph= .iX (List.replicate N.many (dM N.each N.each)) 0:=by unfold Nd.step;rw[hp];simp only;rw[if_pos hk]
   have hT:N.step.T=N.T:=by unfold Nd.step;rw[hp]
   rw[if_pos (by rw[h3];exact hk)]at hif;obtain⟨fb,bQ,eb,vb,bT,qx,l1,l2,l3⟩:=hif;have hnl:=h1.lt
   have hin:∀q,q∈aS db rb fb eb vb ob og (bl.map fun b=>b.1) (gQ bl)→q∈bC db rb ob og bl∨w.heap.size≤q:=fun q hq=>by
    unfold aS at hq;rw[List.mem_cons,List.mem_cons,List.mem_cons,List.mem_cons,List.mem_cons,List.mem_cons,List.mem_cons]at hq;rcases hq with e|e|e|e|e|e|e|e
    ·exact .inl (by simp[bC,e])
    ·exact .inl (by simp[bC,e])
    ·exact .inr (by omega)
    ·exact .inr (by omega)
    ·exact .inr (by omega)
    ·exact .inl (by simp[bC,e])
    ·exact .inl (by simp[bC,e])
    ·have:=zl e;refine .inl ?_;unfold bC;rw[List.mem_cons,List.mem_cons,List.mem_cons,List.mem_cons];exact .inr (.inr (.inr (.inr this)))
   refine⟨rfl,nb::aS db rb fb eb vb ob og (bl.map fun b=>b.1) (gQ bl),_, ?_,fun q hq=> ?_,hM',NC,hmod⟩
   ·unfold bL;rw[hP,hT,hL.each,Uu];refine⟨db,rb,cap,ob,og,fb,bQ,eb,vb,bT,bl.map fun b=>b.1,gQ bl,by rw[hcells];exact hblk,by rw[←h3];exact qx,by rw[hL.many,←h3];simp[gQ],rfl,fun hh=> ?_⟩;rcases hin nb hh with e|e
    ·exact h4 e
    ·omega
   ·rcases List.mem_cons.1 hq with e|e
    ·exact .inl (by simp[e])
    ·rcases hin q e with e|e
     ·exact .inl (by simp[e])
     ·exact .inr e
  ·have hP:N.step.ph= .nN (k+1):=by unfold Nd.step;rw[hp];simp only;rw[if_neg hk]
   have hT:N.step.T=N.T:=by unfold Nd.step;rw[hp]
   rw[if_neg (by rw[h3];exact hk)]at hif;refine⟨rfl,nb::bC db rb ob og bl,_, ?_,fun q hq=> .inl hq,hM',NC,hmod⟩;unfold bL;rw[hP,hT,hL.each,Uu];exact⟨db,rb,cap,ob,og,bl,by rw[hcells];exact hblk,hif,by rw[hL.many];exact h3,rfl,h4⟩
 |iX Ts next=>
  rw[hp]at h bZ;obtain⟨db,rb,cap,ob,og,fb,bQ,eb,vb,bT,bE,bs,h1,h2,h3,rfl,h4⟩:=h
  have hn:next<N.len:=by unfold Nd.left at hl;rw[hp]at hl;simp only at hl;omega
  simp only[List.mem_cons,not_or]at hF;obtain⟨f1,f2,f3,f4,c,f5⟩:=ho.fits hp hn ((x.add (cU 1) 1).add cV 1)
  have hst:=MX db rb cap ob og fb bQ eb vb bT bE bs N.T Ts N.each N.dep next P x w h2 ho.tg.ok hn (by rw[h3];exact aar f1) hM hE hF.2 hb0 (fun q hq=>hbF q (by simp[hq]))
  refine(D7 h1 hst).mono ?_;rintro e w' ⟨rfl,qx,hM',hm⟩;rw[h3,Xx]at qx hM';rw[f5]at hM';have NC:dV x (((x.add (cU 1) 1).add cV 1).add cV c) 0 1:=((sU x 1).trans (PS _ 1)).trans (PS _ c)
  have hnb:nb∉P.mb::aS db rb fb eb vb ob og bE bs:=by simp only[List.mem_cons,not_or];exact⟨fun e=>hF.1 e.symm,h4⟩
  have hP:N.step.ph= .iX (eD N.many N.au (zO,Ts) (bI (N.T.gs.getD next []))).2 (next+1):=by unfold Nd.step;rw[hp]
  have hT:N.step.T=takeN N.T next 8:=by unfold Nd.step;rw[hp]
  refine⟨rfl,nb::aS db rb fb eb vb ob og bE bs,_, ?_,fun q hq=> .inl hq,hM',NC,hm.more (fun q hq=>by
   rcases List.mem_cons.1 hq with e|e
   ·simp[e]
   ·simp[e])⟩
  unfold bL;rw[hP,hT,hL.each,Uu,Lx _ _ zO ((x.add (cU 1) 1).add cV 1)];exact⟨db,rb,cap,ob,og,fb,bQ,eb,vb,bT,bE,bs,by rw[hcells];exact h1.mod hm hnb,qx,by rw[hL.many];exact h3,rfl,h4⟩
theorem UJ (h:bL w nb F N)(ho:eu H N)(hb:N.ph.busy=true)(hl:N.left=0)(hm1:N.many=1):
  Calls Tryz.prog 165 #[aR nb] w fun e w'=>e= .returned (.tuple #[.pointer none,.nilIface])∧∃X F',bL w' nb F' ⟨N.pfx,N.au,0,0,X,.idle⟩∧eu H ⟨N.pfx,N.au,0,0,X,.idle⟩∧(Nd.mk N.pfx N.au 0 0 X .idle).ents=N.ents∧X.gs.length=N.each∧(∀q∈F',q∈F)∧Mod F w w':=by
 obtain⟨Ts,hp,hT⟩:=ended ho hb hl;have bZ:=ho.ph;unfold lT at bZ;unfold bL at h;rw[hp]at h bZ;obtain⟨db,rb,cap,ob,og,fb,bQ,eb,vb,bT,bE,bs,h1,h2,h3,rfl,h4⟩:=h;rw[hm1]at h3;obtain⟨b,rfl⟩:=List.length_eq_one_iff.1 h3;have Xy:=h2.tabs.len;rw[h3]at Xy;obtain⟨X,rfl⟩:=List.length_eq_one_iff.1 Xy.symm;obtain⟨e1,e2,e3,_⟩:=acf ho hp hT;obtain⟨m1,m2⟩:=gT (db:=db) (rb:=rb) (fb:=fb) (eb:=eb) (vb:=vb) (ob:=ob) (og:=og) (bE:=bE) (bs:=[b]) (b:=b) (by simp);refine(Ph nb ob db rb cap og fb bQ eb vb bT b.1 b.2 bE N.pfx N.au N.kind N.T [X] N.each N.dep N.len w h1 h2 ho.pw.le rfl (fun q hq e=>h4 (e▸hq))).mono ?_;rintro e w' ⟨rfl,hb',hts,hm⟩;refine⟨rfl,X,[nb,b.1,b.2], ?_,e1,e2,e3,fun q hq=> ?_,hm.more (fun q hq=> ?_)⟩
 ·exact⟨b.1,b.2,hb',hts.at_ 0 b X rfl rfl,rfl,fun e=>h4 (e▸m1),fun e=>h4 (e▸m2)⟩
 ·simp at hq;rcases hq with rfl|rfl|rfl
  ·simp
  ·simp[m1]
  ·simp[m2]
 ·simp at hq;rcases hq with rfl|rfl
  ·simp
  ·simp[aS]
theorem UK (h:bL w nb F N)(ho:eu H N)(hb:N.ph.busy=true)(hl:N.left=0)(hm2:N.many=2):
  Calls Tryz.prog 165 #[aR nb] w fun e w'=>∃qb,e= .returned (.tuple #[aR qb,.nilIface])∧w.heap.size≤qb∧N.au<5∧∃X Y F' F2,bL w' nb F' ⟨2*N.pfx,N.au+1,0,0,X,.idle⟩∧bL w' qb F2 ⟨2*N.pfx+1,N.au+1,0,0,Y,.idle⟩∧eu H ⟨2*N.pfx,N.au+1,0,0,X,.idle⟩∧eu H ⟨2*N.pfx+1,N.au+1,0,0,Y,.idle⟩∧
   (Nd.mk (2*N.pfx) (N.au+1) 0 0 X .idle).ents++(Nd.mk (2*N.pfx+1) (N.au+1) 0 0 Y .idle).ents=N.ents∧X.gs.length=N.each∧Y.gs.length=N.each∧(∀q∈F',q∈F)∧(∀q∈F2,q∈F∨w.heap.size≤q)∧(∀q∈F',q∉F2)∧Mod F w w':=by
 obtain⟨Ts,hp,hT⟩:=ended ho hb hl;have hpf:=ho.pfx;have hdp:=ho.deep;unfold bL at h;rw[hp]at h;obtain⟨db,rb,cap,ob,og,fb,bQ,eb,vb,bT,bE,bs,h1,h2,h3,rfl,h4⟩:=h;rw[hm2]at h3;obtain⟨b,c,rfl⟩:=Sy h3;have Xy:=h2.tabs.len;rw[h3]at Xy;obtain⟨X,Y,rfl⟩:=Sy Xy.symm;obtain⟨e1,e2,e3,e4,e5,_,e6⟩:=acg ho hp hT;obtain⟨m1,m2⟩:=gT (db:=db) (rb:=rb) (fb:=fb) (eb:=eb) (vb:=vb) (ob:=ob) (og:=og) (bE:=bE) (bs:=[b,c]) (b:=b) (by simp);obtain⟨m3,m4⟩:=gT (db:=db) (rb:=rb) (fb:=fb) (eb:=eb) (vb:=vb) (ob:=ob) (og:=og) (bE:=bE) (bs:=[b,c]) (b:=c) (by simp);have hlts:=h2.iE;have hnl:=h1.lt
 have ahp:N.pfx≤1000:=by
  have:2^N.au≤2^5:=Nat.pow_le_pow_right (by decide) hdp;omega
 refine(Pj nb ob db rb cap og fb bQ eb vb bT b.1 b.2 c.1 c.2 bE N.pfx N.au N.kind N.T [X,Y] N.each N.dep N.len w h1 h2 ho.pw.le rfl (fun q hq e=>h4 (e▸hq)) (by omega) (by omega)).mono ?_;rintro e w' ⟨qb,rfl,hb',hq',hql,hts,hm⟩;have hne:=hts.ne 0 1 b c rfl rfl (by decide);refine⟨qb,rfl,hql,e6,X,Y,[nb,b.1,b.2],[qb,c.1,c.2], ?_, ?_,e1,e2,e3,e4,e5,fun q hq=> ?_,fun q hq=> ?_,fun q hq hq2=> ?_,hm.more (fun q hq=> ?_)⟩
 ·refine⟨b.1,b.2, ?_,hts.at_ 0 b X rfl rfl,rfl,fun e=>h4 (e▸m1),fun e=>h4 (e▸m2)⟩;unfold kT;simpa using hb'
 ·refine⟨c.1,c.2, ?_,hts.at_ 1 c Y rfl rfl,rfl,fun e=> ?_,fun e=> ?_⟩
  ·unfold kT;simpa using hq'
  ·have:=hlts _ m3;omega
  ·have:=hlts _ m4;omega
 ·simp at hq;rcases hq with rfl|rfl|rfl
  ·simp
  ·simp[m1]
  ·simp[m2]
 ·simp at hq;rcases hq with rfl|rfl|rfl
  ·exact .inr hql
  ·exact .inl (by simp[m3])
  ·exact .inl (by simp[m4])
 ·simp at hq hq2;have g1:=hlts _ m1;have g2:=hlts _ m2
  rcases hq with rfl|rfl|rfl<;>rcases hq2 with e|e|e
  ·omega
  ·exact h4 (e▸m3)
  ·exact h4 (e▸m4)
  ·omega
  ·exact hne.1 e
  ·exact hne.2.1 e
  ·omega
  ·exact hne.2.2.1 e
  ·exact hne.2.2.2 e
 ·simp at hq;rcases hq with rfl|rfl
  ·simp
  ·simp[aS]
end
end
end Go.Proofs.YtjfgpnapccdnlaaGreatDoor
