/- A node's Find, Put, Delete, told of its entries. -/
import Derived.Test.YtgiaobmcbbfmnaaGreatDoorCoBH
import Derived.Test.YtgiaobmcbbfmnaaGreatDoorKit2
import Derived.Test.YtgiaobmcbbfmnaaGreatDoorCoBU
namespace Go.Proofs.YtgiaobmcbbfmnaaGreatDoor
set_option maxHeartbeats 2000000
open Go.RowKit dw
section
variable {c l : bE} {cnt gX key p tX : Nat} {V w' : World} {TX : aD} {S : List Nat}
theorem EB (hp:c.p=(p:Int))(h:0≤l.p):∀n,0≤(fK l c n).p∧(fK l c n).p≤l.p+(p*n:Nat)
 |0=>⟨h,by show l.p≤_;omega⟩
 |n+1=>by
  obtain⟨h1,h2⟩:=EB hp h n;show 0≤sj _ _∧sj _ _≤_;rw[hp,Nat.mul_succ];unfold sj ow;generalize(fK l c n).p=a at*;generalize p*n=b at*;omega
theorem EC (hp:c.u=(p:Int))(h:0≤l.u):∀n,0≤(fK l c n).u∧(fK l c n).u≤l.u+(p*n:Nat)
 |0=>⟨h,by show l.u≤_;omega⟩
 |n+1=>by
  obtain⟨h1,h2⟩:=EC hp h n;show 0≤sj _ _∧sj _ _≤_;rw[hp,Nat.mul_succ];unfold sj ow;generalize(fK l c n).u=a at*;generalize p*n=b at*;omega
theorem Ja (x:bH)(n:Nat):dN x (x.add cP n) n 0:=fun h1 h2=>by
 obtain⟨a,b⟩:=EB (c:=cP) (p:=1) rfl h1 n;obtain⟨c,d⟩:=EC (c:=cP) (p:=0) rfl h2 n;exact⟨a,by simpa[bH.add]using b,c,by simpa[bH.add]using d⟩
theorem Pp (x:bH)(n:Nat):dN x (x.add cV n) 0 0:=fun h1 h2=>by
 obtain⟨a,b⟩:=EB (c:=cV) (p:=0) rfl h1 n;obtain⟨c,d⟩:=EC (c:=cV) (p:=0) rfl h2 n;exact⟨a,by simpa[bH.add]using b,c,by simpa[bH.add]using d⟩
theorem nO (x:bH)(k:Nat):dN x (x.add (cU (k:Int)) 1) 0 k:=fun h1 h2=>by
 obtain⟨a,b⟩:=EB (c:=cU (k:Int)) (p:=0) rfl h1 1;obtain⟨c,d⟩:=EC (c:=cU (k:Int)) (p:=k) rfl h2 1;exact⟨a,by simpa[bH.add]using b,c,by simpa[bH.add]using d⟩
theorem yG {w U:World}(h:Below w.heap.size w V)(k:Below V.heap.size V U):Below w.heap.size w U:=((Mod.of_below h []).trans (Mod.of_below k []) (by simp) (by simp)).Bl
theorem yj.next {w:World}{db hash:Nat}{P:MP}{x:bH}(h:yj w db P x c key hash tX gX TX cnt)(hV:Below w.heap.size w V):yj V db P x c key hash tX gX TX cnt:=fun U hU=>h U (yG hV hU)
theorem Through.out {w:World}{R:World→Prop}(h:Through (fun V V'=>R V'∧Mod S V V') w w')(_:∀k∈S,k<w.heap.size)(hR:∀(V':World) (g:Nat),w.heap.size≤g→R V'→Mod [g] V' w'→R w'):R w'∧Mod S w w':=by
 obtain⟨V,V',g,h1,⟨h2,h3⟩,h4,h5,h6⟩:=h;exact⟨hR V' g h4 h2 h6,((Mod.of_below h1 S).then h3).trans h6 (fun _ hh _=>hh) (fun q hq hl=>by simp at hq;omega)⟩
section
variable {W0 : World} {E : Nat → Addr} {H : Nat → Nat} {nb : Nat} {F : List Nat} {N : Nd} {P : MP} {x : bH} {w : World}
theorem Wr.world {del add:List ay}{X:aD}(_:aP w P x)(hF:P.mb∉F)(W:Whr w H nb F N P x cP key tX gX cnt TX)(h1:TabAt w' tX gX X)(hc:BG del add TX X)(ha:wU H N del add)(hh:∀e∈add,e.hash=H key)(hd:del=[]→(aJ TX.gs key (H key)).1=none)(h2:Mod [P.mb,tX,gX] w w')(h3:aP w' P (x.add cP cnt)):
  ∃x' N',bK w' nb F N'∧Wr H del add N N'∧aP w' P x'∧dN x x' 128 0∧Mod (P.mb::F) w w':=by
 obtain⟨N',n1,n2⟩:=W.swap w' _ del add _ h1 hc ha hh hd h2 (fun q hq dL=>by
  simp at dL;rcases dL with rfl|rfl|rfl
  ·exact absurd hq hF
  ·exact .inl rfl
  ·exact .inr rfl)
 exact⟨_,N',n1,n2,h3,(Ja x cnt).mono W.Zx (Nat.le_refl _),h2.more fun k hk=>by
  simp at hk;rcases hk with rfl|rfl|rfl
  ·simp
  ·simp[W.inT]
  ·simp[W.inG]⟩
theorem Gx {w:World}(hV:Below w.heap.size w V)(h:Mod S V w'):Mod S w w':=(Mod.of_below hV S).then h
theorem DX (e:ay)(more:Bool)(h:bK w nb F N)(ho:dY H N)(hh:e.hash=H e.key)(h64:e.hash<18446744073709551616)(hv:e.val<18446744073709551616)(hM:aP w P x)(hE:Env W0 E w)(hb0:W0.heap.size≤P.mb)(hF:P.mb∉F)(e0:ay)(he0:e0∈N.ents)(hk:e0.key=e.key):
  Calls Tryz.prog 70 #[aQ nb,aM (some ⟨P.mb,P.mo,none⟩) cP,aW e,.bool more] w fun y w'=>y= .returned (.tuple #[.bool false,.nilIface])∧∃x' N',bK w' nb F N'∧Wr H [e0] [{e0 with val:=e.val}] N N'∧aP w' P x'∧dN x x' 128 0∧Mod (P.mb::F) w w':=by
 obtain⟨tX,gX,cnt,TX,W⟩:=Gq cP e.key h ho (hh▸h64) hM hE hb0 hF;have hmt:P.mb≠tX:=fun e=>hF (e▸W.inT);have lM:P.mb≠gX:=fun e=>hF (e▸W.inG);have hmn:P.mb≠nb:=fun e=>hF (e▸h.M4)
 obtain⟨i,s,hs1,hs2⟩:∃i s,(aJ TX.gs e.key (H e.key)).1=some (i,s)∧aF TX.gs i s= .full e0:=by
  rcases W.Zy with⟨e1,he,hk',_,i,s,h1,h2⟩|⟨h1,_⟩
  ·have h3:=lg ho.keys he;have h4:=lg ho.keys he0;rw[hk']at h3;rw[hk,h3]at h4;cases h4;exact⟨i,s,h1,h2⟩
  ·exact absurd hk (h1 e0 he0)
 have hch:=TR (v:=e.val) W.tg hs2
 have hh0:∀y∈[({e0 with val:=e.val}:ay)],y.hash=H e.key:=fun y hy=>by
  simp at hy;subst hy;rw[←hk];exact(ho.hash e0 he0).1.hash
 rw[←hh]at hs1;rcases W.call with⟨hb,hc⟩|⟨tb,db,hb,hS⟩
 ·refine(JM nb tX gX N.pfx N.au N.kind TX P x cP e more w hb W.tab W.tg.ok.pow h64 hM hE hb0 hmt lM hmn W.ne.1 W.ne.2 i s hs1 e0 hs2).mono fun y w' ⟨h1,h2,h3,h4⟩=>⟨h1,Wr.world hM hF W h2 hch (Le ho he0 hv) hh0 (by simp) h4 (by rw[hc,←hh];exact h3)⟩
 ·rw[←hh]at hS;refine(wG nb tb db N.pfx N.au N.kind P cP e more false .nilIface (fun V V'=>TabAt V' tX gX (replaceM TX i s e.val e0)∧aP V' P (x.add cP cnt)∧Mod [P.mb,tX,gX] V V') w hb fun V hV=> ?_).mono fun y w' ⟨h1,V,hV,h2,h3,h4⟩=>⟨h1,Wr.world hM hF W h2 hch (Le ho he0 hv) hh0 (by simp) (Gx hV h4) h3⟩;exact JK db tX gX cnt TX P x cP e V (hS.next hV) (W.tab.below hV) (hM.below hV).lt hmt lM more i s hs1 e0 hs2
theorem Ub (e:ay)(h:bK w nb F N)(ho:dY H N)(he:mZ H e)(ht:dX e.hash N.au=N.pfx)(hM:aP w P x)(hE:Env W0 E w)(hb0:W0.heap.size≤P.mb)(hF:P.mb∉F)(hk:∀y∈N.ents,y.key≠e.key)(hf:N.ents.length+1≤192)(hs:N.sl=0):
  Calls Tryz.prog 70 #[aQ nb,aM (some ⟨P.mb,P.mo,none⟩) cP,aW e,.bool true] w fun y w'=>y= .returned (.tuple #[.bool true,.nilIface])∧∃x' N',bK w' nb F N'∧Wr H [] [e] N N'∧aP w' P x'∧dN x x' 128 0∧Mod (P.mb::F) w w':=by
 obtain⟨tX,gX,cnt,TX,W⟩:=Gq cP e.key h ho (he.hash▸he.h64) hM hE hb0 hF;have hmt:P.mb≠tX:=fun e=>hF (e▸W.inT);have lM:P.mb≠gX:=fun e=>hF (e▸W.inG);have hmn:P.mb≠nb:=fun e=>hF (e▸h.M4)
 obtain⟨IL,hroom⟩:(∀y∈aH TX.gs,y.key≠e.key)∧load TX+1≤7*TX.gs.length:=by
  rcases W.Zy with⟨e1,he1,hk',_⟩|⟨_,h2,_,h3⟩
  ·exact absurd hk' (hk e1 he1)
  ·exact⟨h2,h3 hs⟩
 obtain⟨hs1,i,s,hs2,hfr⟩:=RI W.tg IL (by omega);have hch:=O0 W.tg hfr IL;have hld:=W.tg.TQ
 have hh0:∀y∈[e],y.hash=H e.key:=fun y hy=>by simp at hy;subst hy;exact he.hash
 have hd:([]:List ay)=[]→(aJ TX.gs e.key (H e.key)).1=none:=fun _=>by rw[←he.hash];exact hs1
 rcases W.call with⟨hb,hc⟩|⟨tb,db,hb,hS⟩
 ·refine(OX nb tX gX N.pfx N.au N.kind TX P x cP e w hb W.tab W.tg.ok.pow he.h64 hM hE hb0 hmt lM hmn W.ne.1 W.ne.2 hs1 i s hs2 W.tg.ok.small (by omega)).mono fun y w' ⟨h1,h2,h3,h4⟩=>⟨h1,Wr.world hM hF W h2 hch (RO ho he ht hk hf hs) hh0 hd h4 (by rw[hc,←he.hash];exact h3)⟩
 ·rw[←he.hash]at hS;refine(wG nb tb db N.pfx N.au N.kind P cP e true true .nilIface (fun V V'=>TabAt V' tX gX (jm TX i s e)∧aP V' P (x.add cP cnt)∧Mod [P.mb,tX,gX] V V') w hb fun V hV=> ?_).mono fun y w' ⟨h1,V,hV,h2,h3,h4⟩=>⟨h1,Wr.world hM hF W h2 hch (RO ho he ht hk hf hs) hh0 hd (Gx hV h4) h3⟩;exact OL db tX gX cnt TX P x cP e V (hS.next hV) (W.tab.below hV) (hM.below hV).lt hmt lM W.tg.ok.pow he.h64 hs1 i s hs2 W.tg.ok.small (by omega)
theorem Q6 (e:ay)(h:bK w nb F N)(ho:dY H N)(hh:e.hash=H e.key)(h64:e.hash<18446744073709551616)(hM:aP w P x)(hE:Env W0 E w)(hb0:W0.heap.size≤P.mb)(hF:P.mb∉F)(hk:∀y∈N.ents,y.key≠e.key):
  Calls Tryz.prog 70 #[aQ nb,aM (some ⟨P.mb,P.mo,none⟩) cP,aW e,.bool false] w fun y w'=>y= .returned (.tuple #[.bool false,jV E 2])∧∃x',aP w' P x'∧dN x x' 128 0∧Mod [P.mb] w w':=by
 obtain⟨tX,gX,cnt,TX,W⟩:=Gq cP e.key h ho (hh▸h64) hM hE hb0 hF;have hmt:P.mb≠tX:=fun e=>hF (e▸W.inT);have lM:P.mb≠gX:=fun e=>hF (e▸W.inG);have hmn:P.mb≠nb:=fun e=>hF (e▸h.M4)
 have hsk:(aJ TX.gs e.key e.hash).1=none:=by
  rcases W.Zy with⟨e1,he1,hk',_⟩|⟨_,_,h2,_⟩
  ·exact absurd hk' (hk e1 he1)
  ·rw[hh];exact h2
 rcases W.call with⟨hb,hc⟩|⟨tb,db,hb,hS⟩
 ·exact(ME nb tX gX N.pfx N.au N.kind TX P x cP e w hb W.tab W.tg.ok.pow h64 hM hE hb0 hmt lM hmn W.ne.1 W.ne.2 hsk).mono fun y w' ⟨h1,_,h3,h4⟩=>⟨h1,_,h3,(Ja x _).mono (by rw[hh,←hc];exact W.Zx) (Nat.le_refl _),h4⟩
 ·rw[←hh]at hS;refine(wG nb tb db N.pfx N.au N.kind P cP e false false (jV E 2) (fun V V'=>aP V' P (x.add cP cnt)∧Mod [P.mb] V V') w hb fun V hV=> ?_).mono fun y w' ⟨h1,V,hV,h3,h4⟩=>⟨h1,_,h3,(Ja x _).mono W.Zx (Nat.le_refl _),Gx hV h4⟩;exact(Mv db tX gX cnt TX P x cP e V (hS.next hV) (W.tab.below hV) (hM.below hV).lt hmt lM (hE.next hV) hb0 hsk).mono fun y V' ⟨h1,_,h3,h4⟩=>⟨h1,h3,h4⟩
end
end
section
variable {a b f : ay} {l' : List ay} {o : Option ay} {Ts : List aD}
def fZ (f:ay)(l:List ay):Option ay→Prop
 |none=>∀e∈l,bg e f=true
 |some m=>m∈l∧bg m f=false∧∀e∈l,bg e f=false→bg e m=false
theorem Jb {c:ay}(h:bg a b=true)(k:bg b c=true):bg a c=true:=by
 simp[bg]at*;omega
theorem zO (a:ay):bg a a=false:=by simp[bg]
theorem Pq {l:List ay}(h:fZ f l o)(e:ay):fZ f (l++[e]) (mH f o e):=by
 unfold mH
 cases hl:bg e f with
 |true=>
  simp only[Bool.not_true,Bool.false_and,Bool.false_eq_true,if_false]
  cases o with
  |none=>
   intro x hx;rcases List.mem_append.1 hx with h1|h1
   ·exact h x h1
   ·simp at h1;subst h1;exact hl
  |some m=>
   refine⟨List.mem_append_left _ h.1,h.2.1,fun x hx j4=> ?_⟩;rcases List.mem_append.1 hx with h1|h1
   ·exact h.2.2 x h1 j4
   ·simp at h1;subst h1;rw[hl]at j4;cases j4
 |false=>
  cases o with
  |none=>
   simp only[Bool.not_false,Bool.true_and,if_true];refine⟨by simp,hl,fun x hx j4=> ?_⟩;rcases List.mem_append.1 hx with h1|h1
   ·rw[h x h1]at j4;cases j4
   ·simp at h1;subst h1;exact zO _
  |some m=>
   simp only[Bool.not_false,Bool.true_and]
   cases hm:bg e m with
   |true=>
    rw[if_pos rfl];refine⟨by simp,hl,fun x hx j4=> ?_⟩;rcases List.mem_append.1 hx with h1|h1
    ·cases hxe:bg x e with
     |false=>rfl
     |true=>have:=h.2.2 x h1 j4;rw[Jb hxe hm]at this;cases this
    ·simp at h1;subst h1;exact zO _
   |false=>
    rw[if_neg (by simp)];refine⟨List.mem_append_left _ h.1,h.2.1,fun x hx j4=> ?_⟩;rcases List.mem_append.1 hx with h1|h1
    ·exact h.2.2 x h1 j4
    ·simp at h1;subst h1;exact hm
theorem DY (f:ay):∀(es l:List ay) (o:Option ay),fZ f l o→fZ f (l++es) (dK f o es)
 | [],l,o,h=>by simpa[dK]using h
 |e::es,l,o,h=>by
  have:=DY f es (l++[e]) _ (Pq h e);simpa[dK]using this
theorem Lx (f:ay)(es:List ay):fZ f es (dK f none es):=by
 have:=DY f es [] none (by intro e he;cases he);simpa using this
theorem MK {l:List ay}{o':Option ay}(h:fZ f l o)(h':fZ f l' o'):fZ f (l++l') (sQ o o'):=by
 unfold sQ
 cases o' with
 |none=>
  cases o with
  |none=>
   intro x hx;rcases List.mem_append.1 hx with h1|h1
   ·exact h x h1
   ·exact h' x h1
  |some m=>
   refine⟨List.mem_append_left _ h.1,h.2.1,fun x hx j4=> ?_⟩;rcases List.mem_append.1 hx with h1|h1
   ·exact h.2.2 x h1 j4
   ·rw[h' x h1]at j4;cases j4
 |some e=>
  cases o with
  |none=>
   refine⟨List.mem_append_right _ h'.1,h'.2.1,fun x hx j4=> ?_⟩;rcases List.mem_append.1 hx with h1|h1
   ·rw[h x h1]at j4;cases j4
   ·exact h'.2.2 x h1 j4
  |some m=>
   simp only
   cases hm:bg e m with
   |true=>
    rw[if_pos rfl];refine⟨List.mem_append_right _ h'.1,h'.2.1,fun x hx j4=> ?_⟩;rcases List.mem_append.1 hx with h1|h1
    ·cases hxe:bg x e with
     |false=>rfl
     |true=>have:=h.2.2 x h1 j4;rw[Jb hxe hm]at this;cases this
    ·exact h'.2.2 x h1 j4
   |false=>
    rw[if_neg (by simp)];refine⟨List.mem_append_left _ h.1,h.2.1,fun x hx j4=> ?_⟩;rcases List.mem_append.1 hx with h1|h1
    ·exact h.2.2 x h1 j4
    ·cases hxm:bg x m with
     |false=>rfl
     |true=>
      have h2:=h'.2.2 x h1 j4
      have:bg e m=true:=by
       simp[bg]at*;omega
      rw[hm]at this;cases this
theorem Cv (f:ay):∀(Ts:List aD) (l:List ay) (o:Option ay),fZ f l o→fZ f (l++cB Ts) (Ts.foldl (fun o T=>sQ o (dK f none (aH T.gs))) o)
 | [],l,o,h=>by simpa[cB]using h
 |T::Ts,l,o,h=>by
  have:=Cv f Ts (l++aH T.gs) _ (MK h (Lx f (aH T.gs)));simpa[cB]using this
theorem Jc (f:ay)(Ts:List aD):fZ f (cB Ts) (fU f Ts):=by
 have:=Cv f Ts [] none (by intro e he;cases he);simpa[fU]using this
theorem gW.snoc {w:World}{bs:List (Nat×Nat)}{ob og:Nat}{T:aD}(h:gW w bs Ts)(hT:TabAt w ob og T)(h1:ob∉fM bs)(h2:og∉fM bs):gW w (bs++[(ob,og)]) (Ts++[T]):=by
 have hcase:∀(i:Nat) (b:Nat×Nat),(bs++[(ob,og)])[i]?=some b→bs[i]?=some b∨(i=bs.length∧b=(ob,og)):=fun i b hb=>by
  by_cases hi:i<bs.length
  ·rw[List.getElem?_append_left hi]at hb;exact .inl hb
  ·rw[List.getElem?_append_right (by omega)]at hb
   have h0:i-bs.length=0:=by
    have:=(List.getElem?_eq_some_iff.1 hb).1;simp at this;omega
   rw[h0]at hb;simp at hb;exact .inr ⟨by omega,hb.symm⟩
 refine⟨by simp[h.len],fun i b X hb hX=> ?_,fun i j b c hb hc hij=> ?_⟩
 ·rcases hcase i b hb with h3|⟨rfl,rfl⟩
  ·rw[List.getElem?_append_left (by rw[←h.len];exact(List.getElem?_eq_some_iff.1 h3).1)]at hX;exact h.at_ i b X h3 hX
  ·rw[h.len,List.getElem?_append_right (Nat.le_refl _),Nat.sub_self]at hX;cases hX;exact hT
 ·have hf:∀b∈bs,b.1≠ob∧b.1≠og∧b.2≠ob∧b.2≠og:=fun b hb=>
   ⟨fun e=>h1 (e▸dJ.2 ⟨b,hb,.inl rfl⟩),fun e=>h2 (e▸dJ.2 ⟨b,hb,.inl rfl⟩),fun e=>h1 (e▸dJ.2 ⟨b,hb,.inr rfl⟩),fun e=>h2 (e▸dJ.2 ⟨b,hb,.inr rfl⟩)⟩
  rcases hcase i b hb with h3|⟨rfl,rfl⟩<;>rcases hcase j c hc with h4|⟨rfl,rfl⟩
  ·exact h.ne i j b c h3 h4 hij
  ·exact hf b (List.mem_of_getElem? h3)
  ·obtain⟨a1,a2,a3,a4⟩:=hf c (List.mem_of_getElem? h4);exact⟨a1.symm,a3.symm,a2.symm,a4.symm⟩
  ·exact absurd rfl hij
theorem acD (d d' h:Nat):cZ 1 d h=cZ 1 d' h:=by unfold cZ;rw[if_pos rfl,if_pos rfl]
theorem ZC (d d':Nat):uD 1 d=uD 1 d':=by funext st e;unfold uD;rw[acD d d']
theorem WT (d d':Nat):∀(es:List ay) (Ts:List aD),Fits 1 d Ts es→Fits 1 d' Ts es
 | [],_,_=>trivial
 |e::es,Ts,h=>by
  unfold Fits at h⊢;rw[acD d' d];exact⟨h.1,WT d d' es _ h.2⟩
theorem ZE {N:Nd}{es:List ay}(h:Fits N.many N.au Ts es):Fits N.many N.dep Ts es:=by
 unfold Nd.dep;split
 ·next h1=>rw[h1]at h⊢;exact WT _ _ _ _ h
 ·exact h
theorem WU (N:Nd)(st:bH×List aD)(es:List ay):eu N.many N.dep st es=eu N.many N.au st es:=by
 unfold Nd.dep;split
 ·next h1=>rw[h1];unfold eu;rw[ZC]
 ·rfl
section
variable {W0 : World} {E : Nat → Addr} {H : Nat → Nat} {nb : Nat} {F : List Nat} {N : Nd} {P : MP} {x : bH} {w : World}
theorem acE (h:bK w nb F N):∃tb dv,aj w nb 172 (kK N tb dv):=by
 unfold bK at h;split at h
 ·obtain⟨tb,gb,h1,_⟩:=h;exact⟨_,_,h1⟩
 ·obtain⟨db,rb,cap,ob,og,bl,h1,_⟩:=h;exact⟨_,_,h1⟩
 ·obtain⟨db,rb,cap,ob,og,fb,bS,eb,vb,bV,bD,bs,h1,_⟩:=h;exact⟨_,_,h1⟩
theorem LA (h:bK w nb F N):Calls Tryz.prog 135 #[aQ nb] w fun e w'=>e= .returned (.tuple #[.int .i64 (N.pfx:Int),.int .i64 (N.au:Int)])∧w.drew=w':=by
 obtain⟨tb,dv,hb⟩:=acE h;exact QX nb tb N.pfx N.au N.kind dv w hb
theorem abF (h:bK w nb F N)(ho:dY H N):Calls Tryz.prog 295 #[aQ nb] w fun e w'=>e= .returned (.int .i64 (N.left:Int))∧Below w.heap.size w w':=by
 have hl:=ho.pw.le;have cK:=ho.ph;unfold lI at cK;unfold bK at h;unfold Nd.left
 cases hp:N.ph with
 |idle=>
  rw[hp]at h;obtain⟨tb,gb,h1,_⟩:=h;exact(MF nb tb N.pfx N.au N.kind w h1).mono fun e w' ⟨a,b⟩=>⟨a,b▸Below.refl _ _⟩
 |nN k=>
  rw[hp]at h;obtain⟨db,rb,cap,ob,og,bl,h1,h2,h3,_⟩:=h;have:=Mr db rb cap ob og bl N.T N.each N.dep k w h2 hl;rw[h3]at this;exact AA nb ob db N.pfx N.au N.kind _ (fun V V'=>Below V.heap.size V V') w h1 this
 |iR Ts next=>
  rw[hp]at h cK;obtain⟨db,rb,cap,ob,og,fb,bS,eb,vb,bV,bD,bs,h1,h2,h3,_⟩:=h
  have:=qF db rb cap ob og fb bS eb vb bV bD bs N.T Ts N.each N.dep next w h2 hl cK.2.1
  exact(AA nb ob db N.pfx N.au N.kind _ (fun V V'=>V.drew=V') w h1 this).mono fun e w' ⟨a,b⟩=>⟨a,b▸(Below.refl _ _).drew⟩
theorem ML (gl:Nat)(h:bK w nb F N)(hb:N.ph.busy=true):Calls Tryz.prog 101 #[aQ nb,.int .i64 (gl:Int)] w fun e w'=>e= .returned (.tuple #[.int .i64 0,.bool false])∧Below w.heap.size w w':=by
 unfold bK at h
 cases hp:N.ph with
 |idle=>rw[hp]at hb;cases hb
 |nN k=>
  rw[hp]at h;obtain⟨db,rb,cap,ob,og,bl,h1,_⟩:=h;exact(zw nb ob db N.pfx N.au N.kind gl w h1).mono fun e w' ⟨a,b⟩=>⟨a,b▸Below.refl _ _⟩
 |iR Ts next=>
  rw[hp]at h;obtain⟨db,rb,cap,ob,og,fb,bS,eb,vb,bV,bD,bs,h1,_⟩:=h;exact(zw nb ob db N.pfx N.au N.kind gl w h1).mono fun e w' ⟨a,b⟩=>⟨a,b▸Below.refl _ _⟩
theorem MN (gl:Nat)(h:bK w nb F N)(ho:dY H N)(hi:N.ph= .idle):Calls Tryz.prog 101 #[aQ nb,.int .i64 (gl:Int)] w fun e w'=>e= .returned (.tuple #[.int .i64 ((iZ N.T.live N.T.bO N.len N.au gl:Nat):Int),.bool (eZ N.T.live N.T.bO N.len N.au gl)])∧Below w.heap.size w w':=by
 unfold bK at h;rw[hi]at h;obtain⟨tb,gb,h1,h2,_⟩:=h;exact JO nb tb gb N.au gl N.pfx N.kind N.T w h1 h2 ho.tg.ok
theorem ZF (gl kind:Nat)(hgl:gl≤5)(h:bK w nb F N)(ho:dY H N)(hi:N.ph= .idle)(hk:iZ N.T.live N.T.bO N.len N.au gl=kind)(h0:kind≠0):Calls Tryz.prog 103 #[aQ nb,.int .i64 (kind:Int)] w fun e w'=>e= .returned .nilIface∧∃F',bK w' nb F' (N.start kind)∧(∀q∈F',q∈F∨w.heap.size≤q)∧Mod [nb] w w':=by
 obtain⟨hs,_⟩:=O4 ho hi hgl hk h0;have cK:=hs.ph;have hK:jM (N.start kind):=cK.1;obtain⟨k1,k2,k3,k4,k5⟩:=iT (N:=N.start kind) ho.pw hK;have hd:=ho.deep
 have hd':N.au<5∨(N.start kind).many=1∧N.au≤5:=by
  rcases hK with h1|h1|h1
  ·exact .inr ⟨by unfold Nd.many;rw[h1];rfl,hd⟩
  ·exact .inr ⟨by unfold Nd.many;rw[h1.1];rfl,hd⟩
  ·exact .inl h1.2.2
 unfold bK at h;rw[hi]at h;obtain⟨tb,gb,h1,h2,rfl,h3,h4⟩:=h;refine(TP nb tb gb kind (N.start kind).each (N.start kind).many N.au N.pfx N.kind N.T hd' w h1 h2 ho.tg.ok k1 k5 h3 h4).mono ?_;rintro e w' ⟨rfl,db,hb,⟨rb,cap,bl,l1,l2,l3,l4,nY⟩,hm⟩;have hnl:=h1.lt;refine⟨rfl,nb::bB db rb tb gb bl, ?_,fun q hq=> ?_,hm⟩
 ·unfold bK;show∃db rb cap ob og bl,_;refine⟨db,rb,cap,tb,gb,bl,hb,nY,l4,rfl,fun hh=> ?_⟩;simp only[bB,List.mem_cons]at hh;rcases hh with e|e|e|e|e
  ·omega
  ·omega
  ·exact h3 e
  ·exact h4 e
  ·have:=l3 nb e;omega
 ·simp only[bB,List.mem_cons]at hq;rcases hq with e|e|e|e|e|e
  ·exact .inl (by simp[e])
  ·exact .inr (by omega)
  ·exact .inr (by omega)
  ·exact .inl (by simp[e])
  ·exact .inl (by simp[e])
  ·exact .inr (l3 q e)
theorem ZG (key hash:Nat)(h:bK w nb F N)(ho:dY H N)(hM:aP w P x)(hE:Env W0 E w)(hb0:W0.heap.size≤P.mb)(hF:P.mb∉F):
  Calls Tryz.prog 132 #[aQ nb,aM (some ⟨P.mb,P.mo,none⟩) cP,.int .u64 (hash:Int),.int .u64 (key:Int)] w fun e w'=>∃o x',e= .returned (qg o)∧fZ ⟨key,0,hash⟩ N.ents o∧aP w' P x'∧dN x x' 192 0∧Mod [P.mb] w w':=by
 have hl:=ho.pw.le;have cK:=ho.ph;unfold lI at cK;unfold bK at h
 have fin:∀(w':World) (n:Nat),Through (fun V V'=>aP V' P (x.add cP n)∧Mod [P.mb] V V') w w'→n≤192→∃x',aP w' P x'∧dN x x' 192 0∧Mod [P.mb] w w':=fun w' n ht hn=>by
  obtain⟨h1,h2⟩:=ht.out (by simpa using hM.lt) (fun V' g hg hR hm=>hR.mod hm (by have:=hM.lt;simp;omega));exact⟨_,h1,(Ja x n).mono hn (Nat.le_refl _),h2⟩
 cases hp:N.ph with
 |idle=>
  rw[hp]at h;obtain⟨tb,gb,h1,h2,rfl,h3,h4⟩:=h
  have hE':N.ents=aH N.T.gs:=by unfold Nd.ents;rw[hp];rfl
  refine(JL nb tb N.pfx N.au N.kind hash key P cP ((dK ⟨key,0,hash⟩ none (aH N.T.gs)).getD ⟨0,0,0⟩) (dK ⟨key,0,hash⟩ none (aH N.T.gs)).isSome [P.mb] (fun V V'=>aP V' P (x.add cP N.T.gs.length)∧Mod [P.mb] V V') w h1 (by simpa using hM.lt) fun V hV=> ?_).mono fun e w' ⟨a,b⟩=> ?_
  ·exact(Fy tb gb N.T P x cP hash key hl V (h2.below hV) (hM.below hV) (hE.next hV) (fun e=>hF (by simp[e])) (fun e=>hF (by simp[e])) hb0).mono fun e V' ⟨a,b,c⟩=>⟨a,c,b,c⟩
  ·obtain⟨x',c,d⟩:=fin w' _ b (by unfold Nd.len at hl;omega);exact⟨_,x',a,by rw[hE'];exact Lx _ _,c,d⟩
 |nN k=>
  rw[hp]at h;obtain⟨db,rb,cap,ob,og,bl,h1,h2,h3,rfl,h4⟩:=h
  have hE':N.ents=cB [N.T]:=by unfold Nd.ents;rw[hp];simp[AL,cB]
  have nH:P.mb≠ob:=fun e=>hF (by simp[bB,e]);have hog:P.mb≠og:=fun e=>hF (by simp[bB,e]);refine(zu nb ob db N.pfx N.au N.kind hash key P cP ((fU ⟨key,0,hash⟩ [N.T]).getD ⟨0,0,0⟩) (fU ⟨key,0,hash⟩ [N.T]).isSome [P.mb] (fun V V'=>aP V' P (x.add cP (sS [N.T]))∧Mod [P.mb] V V') w h1 (by simpa using hM.lt) fun V hV=> ?_).mono fun e w' ⟨a,b⟩=> ?_
  ·have h2':=h2.mod (Mod.of_below hV []) (by simp)
   have hts:gW V [(ob,og)] [N.T]:=by
    have:=(gW.mk (w:=V) (bs:=[]) (Ts:=[]) rfl (fun j b T hb=>by simp at hb) (fun i j b c hb=>by simp at hb)).snoc h2'.tab (by simp[fM]) (by simp[fM]);simpa using this
   exact(IV db ob 0 none [] (by simp) _ _ _ _ [(ob,og)] [N.T] P x cP hash key V h2'.blk ⟨by simp[ptrs],fun hh=>by simp at hh⟩ rfl hts (fun T hT=>by simp at hT;subst hT;exact hl) (hM.below hV) (hE.next hV) hb0 (fun b hb=>by simp at hb;subst hb;exact⟨nH,hog⟩)).mono fun e V' ⟨a,b,c⟩=>⟨a,c,b,c⟩
  ·obtain⟨x',c,d⟩:=fin w' _ b (by unfold sS;unfold Nd.len at hl;simp;omega);exact⟨_,x',a,by rw[hE'];exact Jc _ _,c,d⟩
 |iR Ts next=>
  rw[hp]at h cK;obtain⟨db,rb,cap,ob,og,fb,bS,eb,vb,bV,bD,bs,h1,h2,h3,rfl,h4⟩:=h;obtain⟨g1,g2,g3,g4,g5⟩:=cK;obtain⟨k1,k2,k3,k4,_⟩:=iT ho.pw g1
  have hE':N.ents=cB (Ts++[N.T]):=by unfold Nd.ents;rw[hp];simp[AL,cB]
  have hg:∀T∈Ts++[N.T],T.gs.length≤64:=fun T hT=>by
   rcases List.mem_append.1 hT with h5|h5
   ·obtain⟨j,hj⟩:=List.getElem?_of_mem h5;rw[(g3.tg j T hj).2];exact k1.le
   ·simp at h5;subst h5;exact hl
  have hsum:∀l:List aD,(∀T∈l,T.gs.length≤64)→sS l≤64*l.length:=fun l=>by
   induction l with
   |nil=>intro _;simp[sS]
   |cons T l ih=>
    intro hh;have h6:=ih (fun X hX=>hh X (by simp[hX]));have h7:=hh T (by simp);unfold sS at h6⊢;simp only[List.map_cons,List.sum_cons,List.length_cons];omega
  have hs:=hsum _ hg;have hlen:=g3.len;rw[List.length_append,List.length_singleton,hlen]at hs;refine(zu nb ob db N.pfx N.au N.kind hash key P cP ((fU ⟨key,0,hash⟩ (Ts++[N.T])).getD ⟨0,0,0⟩) (fU ⟨key,0,hash⟩ (Ts++[N.T])).isSome [P.mb] (fun V V'=>aP V' P (x.add cP (sS (Ts++[N.T])))∧Mod [P.mb] V V') w h1 (by simpa using hM.lt) fun V hV=> ?_).mono fun e w' ⟨a,b⟩=> ?_
  ·have h2':=h2.mod (Mod.of_below hV []) (by simp);have hnd:=h2.nd;unfold aR at hnd;simp only[List.nodup_cons,List.mem_cons,List.mem_append,not_or]at hnd;obtain⟨_,_,_,_,_,⟨_,_,f8⟩,⟨_,g8⟩,_⟩:=hnd;have hts:=h2'.tabs.snoc h2'.tab f8 g8
   exact(IV db ob bS (some ⟨fb,0,none⟩) (bs.map Prod.fst) (by rw[List.length_map];omega) _ _ _ _ (bs++[(ob,og)]) (Ts++[N.T]) P x cP hash key V (by rw[List.length_map];exact h2'.blk) (eP.reads h2'.fresh) (by simp) hts hg (hM.below hV) (hE.next hV) hb0 (fun b hb=>by
    rcases List.mem_append.1 hb with h5|h5
    ·obtain⟨m1,m2⟩:=gZ (db:=db) (rb:=rb) (fb:=fb) (eb:=eb) (vb:=vb) (ob:=ob) (og:=og) (bD:=bD) h5;exact⟨fun e=>hF (by rw[e];simp[m1]),fun e=>hF (by rw[e];simp[m2])⟩
    ·simp at h5;subst h5
     exact⟨fun e=>hF (by simp[aR,e]),fun e=>hF (by simp[aR,e])⟩)).mono fun e V' ⟨a,b,c⟩=>⟨a,c,b,c⟩
  ·obtain⟨x',c,d⟩:=fin w' _ b (by omega);exact⟨_,x',a,by rw[hE'];exact Jc _ _,c,d⟩
theorem RU {α:Type}{l:List α}(h:l.length=2):∃a b,l=[a,b]:=by
 match l,h with
 | [a,b],_=>exact⟨a,b,rfl⟩
theorem DZ {nb tb db:Nat}{pfx au job:Int}{R:World→Prop}(h:aj w nb 172 #[.int .i64 pfx,.int .i64 au,.pointer (some ⟨tb,0,none⟩),.int .i64 job,.pointer (some ⟨db,0,none⟩)])(hc:Calls Tryz.prog 297 #[dx db,.pointer (some ⟨P.mb,P.mo,none⟩)] w fun e w'=>e= .returned (.bool true)∧R w'):
  Calls Tryz.prog 296 #[aQ nb,.pointer (some ⟨P.mb,P.mo,none⟩)] w fun e w'=>e= .returned (.bool true)∧R w':=JN nb tb db pfx au job P (fun _ V'=>R V') w h hc
theorem abG (h:bK w nb F N)(ho:dY H N)(hl:1≤N.left)(hM:aP w P x)(hE:Env W0 E w)(hb0:W0.heap.size≤P.mb)(hF:P.mb∉F)(hbF:∀q∈F,W0.heap.size≤q):
  Calls Tryz.prog 296 #[aQ nb,mg P] w fun e w'=>e= .returned (.bool true)∧∃F' x',bK w' nb F' N.step∧(∀q∈F',q∈F∨w.heap.size≤q)∧aP w' P x'∧dN x x' 0 1∧Mod (P.mb::F) w w':=by
 have hL:=rO N
 have TN:N.step.dep=N.dep:=by unfold Nd.dep;rw[hL.many,hL.au]
 have hcells:∀tb dv,kK N.step tb dv=kK N tb dv:=fun tb dv=>by unfold kK;rw[hL.pfx,hL.au,hL.kind]
 have cK:=ho.ph;unfold lI at cK;unfold bK at h
 cases hp:N.ph with
 |idle=>unfold Nd.left at hl;rw[hp]at hl;simp at hl
 |nN k=>
  rw[hp]at h cK;obtain⟨db,rb,cap,ob,og,bl,h1,h2,h3,rfl,h4⟩:=h;simp only[List.mem_cons,not_or]at hF;have hst:=Mx db rb cap ob og bl N.T N.each N.dep k P x w h2 hM hE hF.2 hb0 (fun q hq=>hbF q (by simp[hq]));refine(DZ h1 hst).mono ?_;rintro e w' ⟨rfl,hM',hm,hif⟩;have Na:dN x ((x.add cV 1).add (cU 1) 1) 0 1:=(Pp x 1).trans (nO _ 1)
  have hnb:nb∉P.mb::bB db rb ob og bl:=by simp only[List.mem_cons,not_or];exact⟨fun e=>hF.1 e.symm,h4⟩
  have hblk:=h1.mod hm hnb
  have hmod:Mod (P.mb::nb::bB db rb ob og bl) w w':=hm.more (fun q hq=>by
   rcases List.mem_cons.1 hq with e|e
   ·simp[e]
   ·simp[e])
  by_cases hk:k+1=N.each*N.many
  ·have hP:N.step.ph= .iR (List.replicate N.many (dM N.each N.each)) 0:=by unfold Nd.step;rw[hp];simp only;rw[if_pos hk]
   have hT:N.step.T=N.T:=by unfold Nd.step;rw[hp]
   rw[if_pos (by rw[h3];exact hk)]at hif;obtain⟨fb,bS,eb,vb,bV,nY,l1,l2,l3⟩:=hif;have hnl:=h1.lt
   have hin:∀q,q∈aR db rb fb eb vb ob og (bl.map fun b=>b.1) (gY bl)→q∈bB db rb ob og bl∨w.heap.size≤q:=fun q hq=>by
    unfold aR at hq;rw[List.mem_cons,List.mem_cons,List.mem_cons,List.mem_cons,List.mem_cons,List.mem_cons,List.mem_cons]at hq;rcases hq with e|e|e|e|e|e|e|e
    ·exact .inl (by simp[bB,e])
    ·exact .inl (by simp[bB,e])
    ·exact .inr (by omega)
    ·exact .inr (by omega)
    ·exact .inr (by omega)
    ·exact .inl (by simp[bB,e])
    ·exact .inl (by simp[bB,e])
    ·have:=zq e;refine .inl ?_;unfold bB;rw[List.mem_cons,List.mem_cons,List.mem_cons,List.mem_cons];exact .inr (.inr (.inr (.inr this)))
   refine⟨rfl,nb::aR db rb fb eb vb ob og (bl.map fun b=>b.1) (gY bl),_, ?_,fun q hq=> ?_,hM',Na,hmod⟩
   ·unfold bK;rw[hP,hT,hL.each,TN];refine⟨db,rb,cap,ob,og,fb,bS,eb,vb,bV,bl.map fun b=>b.1,gY bl,by rw[hcells];exact hblk,by rw[←h3];exact nY,by rw[hL.many,←h3];simp[gY],rfl,fun hh=> ?_⟩;rcases hin nb hh with e|e
    ·exact h4 e
    ·omega
   ·rcases List.mem_cons.1 hq with e|e
    ·exact .inl (by simp[e])
    ·rcases hin q e with e|e
     ·exact .inl (by simp[e])
     ·exact .inr e
  ·have hP:N.step.ph= .nN (k+1):=by unfold Nd.step;rw[hp];simp only;rw[if_neg hk]
   have hT:N.step.T=N.T:=by unfold Nd.step;rw[hp]
   rw[if_neg (by rw[h3];exact hk)]at hif;refine⟨rfl,nb::bB db rb ob og bl,_, ?_,fun q hq=> .inl hq,hM',Na,hmod⟩;unfold bK;rw[hP,hT,hL.each,TN];exact⟨db,rb,cap,ob,og,bl,by rw[hcells];exact hblk,hif,by rw[hL.many];exact h3,rfl,h4⟩
 |iR Ts next=>
  rw[hp]at h cK;obtain⟨db,rb,cap,ob,og,fb,bS,eb,vb,bV,bD,bs,h1,h2,h3,rfl,h4⟩:=h
  have hn:next<N.len:=by unfold Nd.left at hl;rw[hp]at hl;simp only at hl;omega
  simp only[List.mem_cons,not_or]at hF;obtain⟨f1,f2,f3,f4,c,f5⟩:=ho.fits hp hn ((x.add (cU 1) 1).add cV 1)
  have hst:=Mw db rb cap ob og fb bS eb vb bV bD bs N.T Ts N.each N.dep next P x w h2 ho.tg.ok hn (by rw[h3];exact ZE f1) hM hE hF.2 hb0 (fun q hq=>hbF q (by simp[hq]))
  refine(DZ h1 hst).mono ?_;rintro e w' ⟨rfl,nY,hM',hm⟩;rw[h3,WU]at nY hM';rw[f5]at hM';have Na:dN x (((x.add (cU 1) 1).add cV 1).add cV c) 0 1:=((nO x 1).trans (Pp _ 1)).trans (Pp _ c)
  have hnb:nb∉P.mb::aR db rb fb eb vb ob og bD bs:=by simp only[List.mem_cons,not_or];exact⟨fun e=>hF.1 e.symm,h4⟩
  have hP:N.step.ph= .iR (eu N.many N.au (zK,Ts) (bJ (N.T.gs.getD next []))).2 (next+1):=by unfold Nd.step;rw[hp]
  have hT:N.step.T=takeN N.T next 8:=by unfold Nd.step;rw[hp]
  refine⟨rfl,nb::aR db rb fb eb vb ob og bD bs,_, ?_,fun q hq=> .inl hq,hM',Na,hm.more (fun q hq=>by
   rcases List.mem_cons.1 hq with e|e
   ·simp[e]
   ·simp[e])⟩
  unfold bK;rw[hP,hT,hL.each,TN,Lc _ _ zK ((x.add (cU 1) 1).add cV 1)];exact⟨db,rb,cap,ob,og,fb,bS,eb,vb,bV,bD,bs,by rw[hcells];exact h1.mod hm hnb,nY,by rw[hL.many];exact h3,rfl,h4⟩
theorem Uc (h:bK w nb F N)(ho:dY H N)(hb:N.ph.busy=true)(hl:N.left=0)(hm1:N.many=1):
  Calls Tryz.prog 170 #[aQ nb] w fun e w'=>e= .returned (.tuple #[.pointer none,.nilIface])∧∃X F',bK w' nb F' ⟨N.pfx,N.au,0,0,X,.idle⟩∧dY H ⟨N.pfx,N.au,0,0,X,.idle⟩∧(Nd.mk N.pfx N.au 0 0 X .idle).ents=N.ents∧X.gs.length=N.each∧(∀q∈F',q∈F)∧Mod F w w':=by
 obtain⟨Ts,hp,hT⟩:=ended ho hb hl;have cK:=ho.ph;unfold lI at cK;unfold bK at h;rw[hp]at h cK;obtain⟨db,rb,cap,ob,og,fb,bS,eb,vb,bV,bD,bs,h1,h2,h3,rfl,h4⟩:=h;rw[hm1]at h3;obtain⟨b,rfl⟩:=List.length_eq_one_iff.1 h3;have WV:=h2.tabs.len;rw[h3]at WV;obtain⟨X,rfl⟩:=List.length_eq_one_iff.1 WV.symm;obtain⟨e1,e2,e3,_⟩:=abw ho hp hT;obtain⟨m1,m2⟩:=gZ (db:=db) (rb:=rb) (fb:=fb) (eb:=eb) (vb:=vb) (ob:=ob) (og:=og) (bD:=bD) (bs:=[b]) (b:=b) (by simp);refine(OY nb ob db rb cap og fb bS eb vb bV b.1 b.2 bD N.pfx N.au N.kind N.T [X] N.each N.dep N.len w h1 h2 ho.pw.le rfl (fun q hq e=>h4 (e▸hq))).mono ?_;rintro e w' ⟨rfl,hb',hts,hm⟩;refine⟨rfl,X,[nb,b.1,b.2], ?_,e1,e2,e3,fun q hq=> ?_,hm.more (fun q hq=> ?_)⟩
 ·exact⟨b.1,b.2,hb',hts.at_ 0 b X rfl rfl,rfl,fun e=>h4 (e▸m1),fun e=>h4 (e▸m2)⟩
 ·simp at hq;rcases hq with rfl|rfl|rfl
  ·simp
  ·simp[m1]
  ·simp[m2]
 ·simp at hq;rcases hq with rfl|rfl
  ·simp
  ·simp[aR]
theorem Ud (h:bK w nb F N)(ho:dY H N)(hb:N.ph.busy=true)(hl:N.left=0)(hm2:N.many=2):
  Calls Tryz.prog 170 #[aQ nb] w fun e w'=>∃qb,e= .returned (.tuple #[aQ qb,.nilIface])∧w.heap.size≤qb∧N.au<5∧∃X Y F' F2,bK w' nb F' ⟨2*N.pfx,N.au+1,0,0,X,.idle⟩∧bK w' qb F2 ⟨2*N.pfx+1,N.au+1,0,0,Y,.idle⟩∧dY H ⟨2*N.pfx,N.au+1,0,0,X,.idle⟩∧dY H ⟨2*N.pfx+1,N.au+1,0,0,Y,.idle⟩∧
   (Nd.mk (2*N.pfx) (N.au+1) 0 0 X .idle).ents++(Nd.mk (2*N.pfx+1) (N.au+1) 0 0 Y .idle).ents=N.ents∧X.gs.length=N.each∧Y.gs.length=N.each∧(∀q∈F',q∈F)∧(∀q∈F2,q∈F∨w.heap.size≤q)∧(∀q∈F',q∉F2)∧Mod F w w':=by
 obtain⟨Ts,hp,hT⟩:=ended ho hb hl;have hpf:=ho.pfx;have hdp:=ho.deep;unfold bK at h;rw[hp]at h;obtain⟨db,rb,cap,ob,og,fb,bS,eb,vb,bV,bD,bs,h1,h2,h3,rfl,h4⟩:=h;rw[hm2]at h3;obtain⟨b,c,rfl⟩:=RU h3;have WV:=h2.tabs.len;rw[h3]at WV;obtain⟨X,Y,rfl⟩:=RU WV.symm;obtain⟨e1,e2,e3,e4,e5,_,e6⟩:=abx ho hp hT;obtain⟨m1,m2⟩:=gZ (db:=db) (rb:=rb) (fb:=fb) (eb:=eb) (vb:=vb) (ob:=ob) (og:=og) (bD:=bD) (bs:=[b,c]) (b:=b) (by simp);obtain⟨m3,m4⟩:=gZ (db:=db) (rb:=rb) (fb:=fb) (eb:=eb) (vb:=vb) (ob:=ob) (og:=og) (bD:=bD) (bs:=[b,c]) (b:=c) (by simp);have hlts:=h2.gJ;have hnl:=h1.lt
 have agn:N.pfx≤1000:=by
  have:2^N.au≤2^5:=Nat.pow_le_pow_right (by decide) hdp;omega
 refine(OZ nb ob db rb cap og fb bS eb vb bV b.1 b.2 c.1 c.2 bD N.pfx N.au N.kind N.T [X,Y] N.each N.dep N.len w h1 h2 ho.pw.le rfl (fun q hq e=>h4 (e▸hq)) (by omega) (by omega)).mono ?_;rintro e w' ⟨qb,rfl,hb',hq',hql,hts,hm⟩;have hne:=hts.ne 0 1 b c rfl rfl (by decide);refine⟨qb,rfl,hql,e6,X,Y,[nb,b.1,b.2],[qb,c.1,c.2], ?_, ?_,e1,e2,e3,e4,e5,fun q hq=> ?_,fun q hq=> ?_,fun q hq hq2=> ?_,hm.more (fun q hq=> ?_)⟩
 ·refine⟨b.1,b.2, ?_,hts.at_ 0 b X rfl rfl,rfl,fun e=>h4 (e▸m1),fun e=>h4 (e▸m2)⟩;unfold kK;simpa using hb'
 ·refine⟨c.1,c.2, ?_,hts.at_ 1 c Y rfl rfl,rfl,fun e=> ?_,fun e=> ?_⟩
  ·unfold kK;simpa using hq'
  ·have:=hlts _ m3;omega
  ·have:=hlts _ m4;omega
 ·simp at hq;rcases hq with rfl|rfl|rfl
  ·simp
  ·simp[m1]
  ·simp[m2]
 ·simp at hq;rcases hq with rfl|rfl|rfl
  ·exact .inr hql
  ·exact .inl (by simp[m3])
  ·exact .inl (by simp[m4])
 ·simp at hq hq2;have g1:=hlts _ m1;have g2:=hlts _ m2
  rcases hq with rfl|rfl|rfl<;>rcases hq2 with e|e|e
  ·omega
  ·exact h4 (e▸m3)
  ·exact h4 (e▸m4)
  ·omega
  ·exact hne.1 e
  ·exact hne.2.1 e
  ·omega
  ·exact hne.2.2.1 e
  ·exact hne.2.2.2 e
 ·simp at hq;rcases hq with rfl|rfl
  ·simp
  ·simp[aR]
end
end
end Go.Proofs.YtgiaobmcbbfmnaaGreatDoor
