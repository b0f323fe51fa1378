/- A node's Find, Put, Delete, told of its entries. -/
import Derived.Test.YthfgacnlojmmfaaGreatDoorCoBH
import Derived.Test.YthfgacnlojmmfaaGreatDoorCoN
import Derived.Test.YthfgacnlojmmfaaGreatDoorCoBU
namespace Go.Proofs.YthfgacnlojmmfaaGreatDoor
set_option maxHeartbeats 2000000
open Go.RowKit AmC
section
variable {c l : Cnt} {cnt gX key p tX : Nat} {V w' : World} {TX : TabM} {S : List Nat}
theorem plusN_p (hp:c.p=(p:Int))(h:0≤l.p):∀n,0≤(plusN l c n).p∧(plusN l c n).p≤l.p+(p*n:Nat)
 |0=>⟨h,by show l.p≤_;omega⟩
 |n+1=>by
  obtain⟨h1,h2⟩:=plusN_p hp h n;show 0≤sumI _ _∧sumI _ _≤_;rw[hp,Nat.mul_succ];unfold sumI clampI;generalize(plusN l c n).p=a at*;generalize p*n=b at*;omega
theorem plusN_u (hp:c.u=(p:Int))(h:0≤l.u):∀n,0≤(plusN l c n).u∧(plusN l c n).u≤l.u+(p*n:Nat)
 |0=>⟨h,by show l.u≤_;omega⟩
 |n+1=>by
  obtain⟨h1,h2⟩:=plusN_u hp h n;show 0≤sumI _ _∧sumI _ _≤_;rw[hp,Nat.mul_succ];unfold sumI clampI;generalize(plusN l c n).u=a at*;generalize p*n=b at*;omega
theorem cost_P (x:Mtr)(n:Nat):Cost x (x.add cP n) n 0:=fun h1 h2=>by
 obtain⟨a,b⟩:=plusN_p (c:=cP) (p:=1) rfl h1 n;obtain⟨c,d⟩:=plusN_u (c:=cP) (p:=0) rfl h2 n;exact⟨a,by simpa[Mtr.add]using b,c,by simpa[Mtr.add]using d⟩
theorem cost_V (x:Mtr)(n:Nat):Cost x (x.add cV n) 0 0:=fun h1 h2=>by
 obtain⟨a,b⟩:=plusN_p (c:=cV) (p:=0) rfl h1 n;obtain⟨c,d⟩:=plusN_u (c:=cV) (p:=0) rfl h2 n;exact⟨a,by simpa[Mtr.add]using b,c,by simpa[Mtr.add]using d⟩
theorem cost_U (x:Mtr)(k:Nat):Cost x (x.add (cU (k:Int)) 1) 0 k:=fun h1 h2=>by
 obtain⟨a,b⟩:=plusN_p (c:=cU (k:Int)) (p:=0) rfl h1 1;obtain⟨c,d⟩:=plusN_u (c:=cU (k:Int)) (p:=k) rfl h2 1;exact⟨a,by simpa[Mtr.add]using b,c,by simpa[Mtr.add]using d⟩
theorem below2 {w U:World}(h:Below w.heap.size w V)(k:Below V.heap.size V U):Below w.heap.size w U:=((Mod.of_below h []).trans (Mod.of_below k []) (by simp) (by simp)).to_below
theorem SeekTo.next {w:World}{db hash:Nat}{P:MP}{x:Mtr}(h:SeekTo w db P x c key hash tX gX TX cnt)(hV:Below w.heap.size w V):SeekTo V db P x c key hash tX gX TX cnt:=fun U hU=>h U (below2 hV hU)
theorem Through.out {w:World}{R:World→Prop}(h:Through (fun V V'=>R V'∧Mod S V V') w w')(_:∀k∈S,k<w.heap.size)(hR:∀(V':World) (g:Nat),w.heap.size≤g→R V'→Mod [g] V' w'→R w'):R w'∧Mod S w w':=by
 obtain⟨V,V',g,h1,⟨h2,h3⟩,h4,h5,h6⟩:=h;exact⟨hR V' g h4 h2 h6,((Mod.of_below h1 S).then h3).trans h6 (fun _ hh _=>hh) (fun q hq hl=>by simp at hq;omega)⟩
section
variable {W0 : World} {E : Nat → Addr} {H : Nat → Nat} {nb : Nat} {F : List Nat} {N : Nd} {P : MP} {x : Mtr} {w : World}
theorem Wr.world {del add:List Ent}{X:TabM}(_:MetP w P x)(hF:P.mb∉F)(W:Whr w H nb F N P x cP key tX gX cnt TX)(h1:TabAt w' tX gX X)(hc:TChg del add TX X)(ha:AddOk H N del add)(hh:∀e∈add,e.hash=H key)(hd:del=[]→(seek TX.gs key (H key)).1=none)(h2:Mod [P.mb,tX,gX] w w')(h3:MetP w' P (x.add cP cnt)):
  ∃x' N',NdAt w' nb F N'∧Wr H del add N N'∧MetP w' P x'∧Cost x x' 128 0∧Mod (P.mb::F) w w':=by
 obtain⟨N',n1,n2⟩:=W.swap w' _ del add _ h1 hc ha hh hd h2 (fun q hq hqS=>by
  simp at hqS;rcases hqS with rfl|rfl|rfl
  ·exact absurd hq hF
  ·exact .inl rfl
  ·exact .inr rfl)
 exact⟨_,N',n1,n2,h3,(cost_P x cnt).mono W.cnt_ (Nat.le_refl _),h2.more fun k hk=>by
  simp at hk;rcases hk with rfl|rfl|rfl
  ·simp
  ·simp[W.inT]
  ·simp[W.inG]⟩
theorem mod_from {w:World}(hV:Below w.heap.size w V)(h:Mod S V w'):Mod S w w':=(Mod.of_below hV S).then h
theorem nd_Put_found (e:Ent)(more:Bool)(h:NdAt w nb F N)(ho:NOk H N)(hh:e.hash=H e.key)(h64:e.hash<18446744073709551616)(hv:e.val<18446744073709551616)(hM:MetP w P x)(hE:Env W0 E w)(hb0:W0.heap.size≤P.mb)(hF:P.mb∉F)(e0:Ent)(he0:e0∈N.ents)(hk:e0.key=e.key):
  Calls Tryz.prog 73 #[nodeP nb,lensV (some ⟨P.mb,P.mo,none⟩) cP,entV e,.bool more] w fun y w'=>y= .returned (.tuple #[.bool false,.nilIface])∧∃x' N',NdAt w' nb F N'∧Wr H [e0] [{e0 with val:=e.val}] N N'∧MetP w' P x'∧Cost x x' 128 0∧Mod (P.mb::F) w w':=by
 obtain⟨tX,gX,cnt,TX,W⟩:=nd_where cP e.key h ho (hh▸h64) hM hE hb0 hF;have hmt:P.mb≠tX:=fun e=>hF (e▸W.inT);have hmg:P.mb≠gX:=fun e=>hF (e▸W.inG);have hmn:P.mb≠nb:=fun e=>hF (e▸h.nb_in)
 obtain⟨i,s,hs1,hs2⟩:∃i s,(seek TX.gs e.key (H e.key)).1=some (i,s)∧slotAt TX.gs i s= .full e0:=by
  rcases W.key_ with⟨e1,he,hk',_,i,s,h1,h2⟩|⟨h1,_⟩
  ·have h3:=look_some ho.keys he;have h4:=look_some ho.keys he0;rw[hk']at h3;rw[hk,h3]at h4;cases h4;exact⟨i,s,h1,h2⟩
  ·exact absurd hk (h1 e0 he0)
 have hch:=tg_replace (v:=e.val) W.tg hs2
 have hh0:∀y∈[({e0 with val:=e.val}:Ent)],y.hash=H e.key:=fun y hy=>by
  simp at hy;subst hy;rw[←hk];exact(ho.hash e0 he0).1.hash
 rw[←hh]at hs1;rcases W.call with⟨hb,hc⟩|⟨tb,db,hb,hS⟩
 ·refine(node_Put_found nb tX gX N.pfx N.dpt N.kind TX P x cP e more w hb W.tab W.tg.ok.pow h64 hM hE hb0 hmt hmg hmn W.ne.1 W.ne.2 i s hs1 e0 hs2).mono fun y w' ⟨h1,h2,h3,h4⟩=>⟨h1,Wr.world hM hF W h2 hch (add_other ho he0 hv) hh0 (by simp) h4 (by rw[hc,←hh];exact h3)⟩
 ·rw[←hh]at hS;refine(node_Put_dual nb tb db N.pfx N.dpt N.kind P cP e more false .nilIface (fun V V'=>TabAt V' tX gX (replaceM TX i s e.val e0)∧MetP V' P (x.add cP cnt)∧Mod [P.mb,tX,gX] V V') w hb fun V hV=> ?_).mono fun y w' ⟨h1,V,hV,h2,h3,h4⟩=>⟨h1,Wr.world hM hF W h2 hch (add_other ho he0 hv) hh0 (by simp) (mod_from hV h4) h3⟩;exact dual_Put_found db tX gX cnt TX P x cP e V (hS.next hV) (W.tab.below hV) (hM.below hV).lt hmt hmg more i s hs1 e0 hs2
theorem nd_Put_new (e:Ent)(h:NdAt w nb F N)(ho:NOk H N)(he:EntOk H e)(ht:topOf e.hash N.dpt=N.pfx)(hM:MetP w P x)(hE:Env W0 E w)(hb0:W0.heap.size≤P.mb)(hF:P.mb∉F)(hk:∀y∈N.ents,y.key≠e.key)(hf:N.ents.length+1≤192)(hs:N.sl=0):
  Calls Tryz.prog 73 #[nodeP nb,lensV (some ⟨P.mb,P.mo,none⟩) cP,entV e,.bool true] w fun y w'=>y= .returned (.tuple #[.bool true,.nilIface])∧∃x' N',NdAt w' nb F N'∧Wr H [] [e] N N'∧MetP w' P x'∧Cost x x' 128 0∧Mod (P.mb::F) w w':=by
 obtain⟨tX,gX,cnt,TX,W⟩:=nd_where cP e.key h ho (he.hash▸he.h64) hM hE hb0 hF;have hmt:P.mb≠tX:=fun e=>hF (e▸W.inT);have hmg:P.mb≠gX:=fun e=>hF (e▸W.inG);have hmn:P.mb≠nb:=fun e=>hF (e▸h.nb_in)
 obtain⟨hkT,hroom⟩:(∀y∈entsT TX.gs,y.key≠e.key)∧load TX+1≤7*TX.gs.length:=by
  rcases W.key_ with⟨e1,he1,hk',_⟩|⟨_,h2,_,h3⟩
  ·exact absurd hk' (hk e1 he1)
  ·exact⟨h2,h3 hs⟩
 obtain⟨hs1,i,s,hs2,hfr⟩:=tg_free W.tg hkT (by omega);have hch:=tg_place W.tg hfr hkT;have hld:=W.tg.loadI
 have hh0:∀y∈[e],y.hash=H e.key:=fun y hy=>by simp at hy;subst hy;exact he.hash
 have hd:([]:List Ent)=[]→(seek TX.gs e.key (H e.key)).1=none:=fun _=>by rw[←he.hash];exact hs1
 rcases W.call with⟨hb,hc⟩|⟨tb,db,hb,hS⟩
 ·refine(node_Put_new nb tX gX N.pfx N.dpt N.kind TX P x cP e w hb W.tab W.tg.ok.pow he.h64 hM hE hb0 hmt hmg hmn W.ne.1 W.ne.2 hs1 i s hs2 W.tg.ok.small (by omega)).mono fun y w' ⟨h1,h2,h3,h4⟩=>⟨h1,Wr.world hM hF W h2 hch (add_new ho he ht hk hf hs) hh0 hd h4 (by rw[hc,←he.hash];exact h3)⟩
 ·rw[←he.hash]at hS;refine(node_Put_dual nb tb db N.pfx N.dpt N.kind P cP e true true .nilIface (fun V V'=>TabAt V' tX gX (placeM TX i s e)∧MetP V' P (x.add cP cnt)∧Mod [P.mb,tX,gX] V V') w hb fun V hV=> ?_).mono fun y w' ⟨h1,V,hV,h2,h3,h4⟩=>⟨h1,Wr.world hM hF W h2 hch (add_new ho he ht hk hf hs) hh0 hd (mod_from hV h4) h3⟩;exact dual_Put_new db tX gX cnt TX P x cP e V (hS.next hV) (W.tab.below hV) (hM.below hV).lt hmt hmg W.tg.ok.pow he.h64 hs1 i s hs2 W.tg.ok.small (by omega)
theorem nd_Put_full (e:Ent)(h:NdAt w nb F N)(ho:NOk H N)(hh:e.hash=H e.key)(h64:e.hash<18446744073709551616)(hM:MetP w P x)(hE:Env W0 E w)(hb0:W0.heap.size≤P.mb)(hF:P.mb∉F)(hk:∀y∈N.ents,y.key≠e.key):
  Calls Tryz.prog 73 #[nodeP nb,lensV (some ⟨P.mb,P.mo,none⟩) cP,entV e,.bool false] w fun y w'=>y= .returned (.tuple #[.bool false,errV E 2])∧∃x',MetP w' P x'∧Cost x x' 128 0∧Mod [P.mb] w w':=by
 obtain⟨tX,gX,cnt,TX,W⟩:=nd_where cP e.key h ho (hh▸h64) hM hE hb0 hF;have hmt:P.mb≠tX:=fun e=>hF (e▸W.inT);have hmg:P.mb≠gX:=fun e=>hF (e▸W.inG);have hmn:P.mb≠nb:=fun e=>hF (e▸h.nb_in)
 have hsk:(seek TX.gs e.key e.hash).1=none:=by
  rcases W.key_ with⟨e1,he1,hk',_⟩|⟨_,_,h2,_⟩
  ·exact absurd hk' (hk e1 he1)
  ·rw[hh];exact h2
 rcases W.call with⟨hb,hc⟩|⟨tb,db,hb,hS⟩
 ·exact(node_Put_full nb tX gX N.pfx N.dpt N.kind TX P x cP e w hb W.tab W.tg.ok.pow h64 hM hE hb0 hmt hmg hmn W.ne.1 W.ne.2 hsk).mono fun y w' ⟨h1,_,h3,h4⟩=>⟨h1,_,h3,(cost_P x _).mono (by rw[hh,←hc];exact W.cnt_) (Nat.le_refl _),h4⟩
 ·rw[←hh]at hS;refine(node_Put_dual nb tb db N.pfx N.dpt N.kind P cP e false false (errV E 2) (fun V V'=>MetP V' P (x.add cP cnt)∧Mod [P.mb] V V') w hb fun V hV=> ?_).mono fun y w' ⟨h1,V,hV,h3,h4⟩=>⟨h1,_,h3,(cost_P x _).mono W.cnt_ (Nat.le_refl _),mod_from hV h4⟩;exact(dual_Put_full db tX gX cnt TX P x cP e V (hS.next hV) (W.tab.below hV) (hM.below hV).lt hmt hmg (hE.next hV) hb0 hsk).mono fun y V' ⟨h1,_,h3,h4⟩=>⟨h1,h3,h4⟩
end
end
section
variable {a b f : Ent} {l' : List Ent} {o : Option Ent} {Ts : List TabM}
def IsLeast (f:Ent)(l:List Ent):Option Ent→Prop
 |none=>∀e∈l,lessE e f=true
 |some m=>m∈l∧lessE m f=false∧∀e∈l,lessE e f=false→lessE e m=false
theorem less_trans {c:Ent}(h:lessE a b=true)(k:lessE b c=true):lessE a c=true:=by
 simp[lessE]at*;omega
theorem less_irrefl (a:Ent):lessE a a=false:=by simp[lessE]
theorem isLeast_step {l:List Ent}(h:IsLeast f l o)(e:Ent):IsLeast f (l++[e]) (leastStep f o e):=by
 unfold leastStep
 cases hl:lessE e f with
 |true=>
  simp only[Bool.not_true,Bool.false_and,Bool.false_eq_true,if_false]
  cases o with
  |none=>
   intro x hx;rcases List.mem_append.1 hx with h1|h1
   ·exact h x h1
   ·simp at h1;subst h1;exact hl
  |some m=>
   refine⟨List.mem_append_left _ h.1,h.2.1,fun x hx hxf=> ?_⟩;rcases List.mem_append.1 hx with h1|h1
   ·exact h.2.2 x h1 hxf
   ·simp at h1;subst h1;rw[hl]at hxf;cases hxf
 |false=>
  cases o with
  |none=>
   simp only[Bool.not_false,Bool.true_and,if_true];refine⟨by simp,hl,fun x hx hxf=> ?_⟩;rcases List.mem_append.1 hx with h1|h1
   ·rw[h x h1]at hxf;cases hxf
   ·simp at h1;subst h1;exact less_irrefl _
  |some m=>
   simp only[Bool.not_false,Bool.true_and]
   cases hm:lessE e m with
   |true=>
    rw[if_pos rfl];refine⟨by simp,hl,fun x hx hxf=> ?_⟩;rcases List.mem_append.1 hx with h1|h1
    ·cases hxe:lessE x e with
     |false=>rfl
     |true=>have:=h.2.2 x h1 hxf;rw[less_trans hxe hm]at this;cases this
    ·simp at h1;subst h1;exact less_irrefl _
   |false=>
    rw[if_neg (by simp)];refine⟨List.mem_append_left _ h.1,h.2.1,fun x hx hxf=> ?_⟩;rcases List.mem_append.1 hx with h1|h1
    ·exact h.2.2 x h1 hxf
    ·simp at h1;subst h1;exact hm
theorem isLeast_fold (f:Ent):∀(es l:List Ent) (o:Option Ent),IsLeast f l o→IsLeast f (l++es) (leastL f o es)
 | [],l,o,h=>by simpa[leastL]using h
 |e::es,l,o,h=>by
  have:=isLeast_fold f es (l++[e]) _ (isLeast_step h e);simpa[leastL]using this
theorem isLeast_L (f:Ent)(es:List Ent):IsLeast f es (leastL f none es):=by
 have:=isLeast_fold f es [] none (by intro e he;cases he);simpa using this
theorem isLeast_merge {l:List Ent}{o':Option Ent}(h:IsLeast f l o)(h':IsLeast f l' o'):IsLeast f (l++l') (mergeLeast o o'):=by
 unfold mergeLeast
 cases o' with
 |none=>
  cases o with
  |none=>
   intro x hx;rcases List.mem_append.1 hx with h1|h1
   ·exact h x h1
   ·exact h' x h1
  |some m=>
   refine⟨List.mem_append_left _ h.1,h.2.1,fun x hx hxf=> ?_⟩;rcases List.mem_append.1 hx with h1|h1
   ·exact h.2.2 x h1 hxf
   ·rw[h' x h1]at hxf;cases hxf
 |some e=>
  cases o with
  |none=>
   refine⟨List.mem_append_right _ h'.1,h'.2.1,fun x hx hxf=> ?_⟩;rcases List.mem_append.1 hx with h1|h1
   ·rw[h x h1]at hxf;cases hxf
   ·exact h'.2.2 x h1 hxf
  |some m=>
   simp only
   cases hm:lessE e m with
   |true=>
    rw[if_pos rfl];refine⟨List.mem_append_right _ h'.1,h'.2.1,fun x hx hxf=> ?_⟩;rcases List.mem_append.1 hx with h1|h1
    ·cases hxe:lessE x e with
     |false=>rfl
     |true=>have:=h.2.2 x h1 hxf;rw[less_trans hxe hm]at this;cases this
    ·exact h'.2.2 x h1 hxf
   |false=>
    rw[if_neg (by simp)];refine⟨List.mem_append_left _ h.1,h.2.1,fun x hx hxf=> ?_⟩;rcases List.mem_append.1 hx with h1|h1
    ·exact h.2.2 x h1 hxf
    ·cases hxm:lessE x m with
     |false=>rfl
     |true=>
      have h2:=h'.2.2 x h1 hxf
      have:lessE e m=true:=by
       simp[lessE]at*;omega
      rw[hm]at this;cases this
theorem isLeast_fold2 (f:Ent):∀(Ts:List TabM) (l:List Ent) (o:Option Ent),IsLeast f l o→IsLeast f (l++entsTs Ts) (Ts.foldl (fun o T=>mergeLeast o (leastL f none (entsT T.gs))) o)
 | [],l,o,h=>by simpa[entsTs]using h
 |T::Ts,l,o,h=>by
  have:=isLeast_fold2 f Ts (l++entsT T.gs) _ (isLeast_merge h (isLeast_L f (entsT T.gs)));simpa[entsTs]using this
theorem isLeast_Ts (f:Ent)(Ts:List TabM):IsLeast f (entsTs Ts) (leastTs f Ts):=by
 have:=isLeast_fold2 f Ts [] none (by intro e he;cases he);simpa[leastTs]using this
theorem TabsAt.snoc {w:World}{bs:List (Nat×Nat)}{ob og:Nat}{T:TabM}(h:TabsAt w bs Ts)(hT:TabAt w ob og T)(h1:ob∉flatB bs)(h2:og∉flatB bs):TabsAt w (bs++[(ob,og)]) (Ts++[T]):=by
 have hcase:∀(i:Nat) (b:Nat×Nat),(bs++[(ob,og)])[i]?=some b→bs[i]?=some b∨(i=bs.length∧b=(ob,og)):=fun i b hb=>by
  by_cases hi:i<bs.length
  ·rw[List.getElem?_append_left hi]at hb;exact .inl hb
  ·rw[List.getElem?_append_right (by omega)]at hb
   have h0:i-bs.length=0:=by
    have:=(List.getElem?_eq_some_iff.1 hb).1;simp at this;omega
   rw[h0]at hb;simp at hb;exact .inr ⟨by omega,hb.symm⟩
 refine⟨by simp[h.len],fun i b X hb hX=> ?_,fun i j b c hb hc hij=> ?_⟩
 ·rcases hcase i b hb with h3|⟨rfl,rfl⟩
  ·rw[List.getElem?_append_left (by rw[←h.len];exact(List.getElem?_eq_some_iff.1 h3).1)]at hX;exact h.at_ i b X h3 hX
  ·rw[h.len,List.getElem?_append_right (Nat.le_refl _),Nat.sub_self]at hX;cases hX;exact hT
 ·have hf:∀b∈bs,b.1≠ob∧b.1≠og∧b.2≠ob∧b.2≠og:=fun b hb=>
   ⟨fun e=>h1 (e▸mem_flatB.2 ⟨b,hb,.inl rfl⟩),fun e=>h2 (e▸mem_flatB.2 ⟨b,hb,.inl rfl⟩),fun e=>h1 (e▸mem_flatB.2 ⟨b,hb,.inr rfl⟩),fun e=>h2 (e▸mem_flatB.2 ⟨b,hb,.inr rfl⟩)⟩
  rcases hcase i b hb with h3|⟨rfl,rfl⟩<;>rcases hcase j c hc with h4|⟨rfl,rfl⟩
  ·exact h.ne i j b c h3 h4 hij
  ·exact hf b (List.mem_of_getElem? h3)
  ·obtain⟨a1,a2,a3,a4⟩:=hf c (List.mem_of_getElem? h4);exact⟨a1.symm,a3.symm,a2.symm,a4.symm⟩
  ·exact absurd rfl hij
theorem one1 (d d' h:Nat):sideOf 1 d h=sideOf 1 d' h:=by unfold sideOf;rw[if_pos rfl,if_pos rfl]
theorem moveOne1 (d d':Nat):moveOne 1 d=moveOne 1 d':=by funext st e;unfold moveOne;rw[one1 d d']
theorem fits1 (d d':Nat):∀(es:List Ent) (Ts:List TabM),Fits 1 d Ts es→Fits 1 d' Ts es
 | [],_,_=>trivial
 |e::es,Ts,h=>by
  unfold Fits at h⊢;rw[one1 d' d];exact⟨h.1,fits1 d d' es _ h.2⟩
theorem fits_dep {N:Nd}{es:List Ent}(h:Fits N.many N.dpt Ts es):Fits N.many N.dep Ts es:=by
 unfold Nd.dep;split
 ·next h1=>rw[h1]at h⊢;exact fits1 _ _ _ _ h
 ·exact h
theorem moveL_dep (N:Nd)(st:Mtr×List TabM)(es:List Ent):moveL N.many N.dep st es=moveL N.many N.dpt st es:=by
 unfold Nd.dep;split
 ·next h1=>rw[h1];unfold moveL;rw[moveOne1]
 ·rfl
section
variable {W0 : World} {E : Nat → Addr} {H : Nat → Nat} {nb : Nat} {F : List Nat} {N : Nd} {P : MP} {x : Mtr} {w : World}
theorem nd_blk (h:NdAt w nb F N):∃tb dv,Blk w nb 190 (ndCells N tb dv):=by
 unfold NdAt at h;split at h
 ·obtain⟨tb,gb,h1,_⟩:=h;exact⟨_,_,h1⟩
 ·obtain⟨db,rb,cap,ob,og,bl,h1,_⟩:=h;exact⟨_,_,h1⟩
 ·obtain⟨db,rb,cap,ob,og,fb,fcap,eb,vb,vcap,bbs,bs,h1,_⟩:=h;exact⟨_,_,h1⟩
theorem nd_Prefix (h:NdAt w nb F N):Calls Tryz.prog 123 #[nodeP nb] w fun e w'=>e= .returned (.tuple #[.int .i64 (N.pfx:Int),.int .i64 (N.dpt:Int)])∧w.drew=w':=by
 obtain⟨tb,dv,hb⟩:=nd_blk h;exact node_Prefix nb tb N.pfx N.dpt N.kind dv w hb
theorem nd_Left (h:NdAt w nb F N)(ho:NOk H N):Calls Tryz.prog 284 #[nodeP nb] w fun e w'=>e= .returned (.int .i64 (N.left:Int))∧Below w.heap.size w w':=by
 have hl:=ho.pw.le;have hph:=ho.ph;unfold PhOk at hph;unfold NdAt at h;unfold Nd.left
 cases hp:N.ph with
 |idle=>
  rw[hp]at h;obtain⟨tb,gb,h1,_⟩:=h;exact(node_Left_tab nb tb N.pfx N.dpt N.kind w h1).mono fun e w' ⟨a,b⟩=>⟨a,b▸Below.refl _ _⟩
 |bld k=>
  rw[hp]at h;obtain⟨db,rb,cap,ob,og,bl,h1,h2,h3,_⟩:=h;have:=dual_Left_bld db rb cap ob og bl N.T N.each N.dep k w h2 hl;rw[h3]at this;exact node_Left_dual nb ob db N.pfx N.dpt N.kind _ (fun V V'=>Below V.heap.size V V') w h1 this
 |mov Ts next=>
  rw[hp]at h hph;obtain⟨db,rb,cap,ob,og,fb,fcap,eb,vb,vcap,bbs,bs,h1,h2,h3,_⟩:=h
  have:=dual_Left_mov db rb cap ob og fb fcap eb vb vcap bbs bs N.T Ts N.each N.dep next w h2 hl hph.2.1
  exact(node_Left_dual nb ob db N.pfx N.dpt N.kind _ (fun V V'=>V.drew=V') w h1 this).mono fun e w' ⟨a,b⟩=>⟨a,b▸(Below.refl _ _).drew⟩
theorem nd_Wants_busy (gl:Nat)(h:NdAt w nb F N)(hb:N.ph.busy=true):Calls Tryz.prog 104 #[nodeP nb,.int .i64 (gl:Int)] w fun e w'=>e= .returned (.tuple #[.int .i64 0,.bool false])∧Below w.heap.size w w':=by
 unfold NdAt at h
 cases hp:N.ph with
 |idle=>rw[hp]at hb;cases hb
 |bld k=>
  rw[hp]at h;obtain⟨db,rb,cap,ob,og,bl,h1,_⟩:=h;exact(node_Wants_dual nb ob db N.pfx N.dpt N.kind gl w h1).mono fun e w' ⟨a,b⟩=>⟨a,b▸Below.refl _ _⟩
 |mov Ts next=>
  rw[hp]at h;obtain⟨db,rb,cap,ob,og,fb,fcap,eb,vb,vcap,bbs,bs,h1,_⟩:=h;exact(node_Wants_dual nb ob db N.pfx N.dpt N.kind gl w h1).mono fun e w' ⟨a,b⟩=>⟨a,b▸Below.refl _ _⟩
theorem nd_Wants_idle (gl:Nat)(h:NdAt w nb F N)(ho:NOk H N)(hi:N.ph= .idle):Calls Tryz.prog 104 #[nodeP nb,.int .i64 (gl:Int)] w fun e w'=>e= .returned (.tuple #[.int .i64 ((whichK N.T.live N.T.tombs N.len N.dpt gl:Nat):Int),.bool (doubleB N.T.live N.T.tombs N.len N.dpt gl)])∧Below w.heap.size w w':=by
 unfold NdAt at h;rw[hi]at h;obtain⟨tb,gb,h1,h2,_⟩:=h;exact node_Wants_tab nb tb gb N.dpt gl N.pfx N.kind N.T w h1 h2 ho.tg.ok
theorem nd_Start (gl kind:Nat)(hgl:gl≤5)(h:NdAt w nb F N)(ho:NOk H N)(hi:N.ph= .idle)(hk:whichK N.T.live N.T.tombs N.len N.dpt gl=kind)(h0:kind≠0):Calls Tryz.prog 106 #[nodeP nb,.int .i64 (kind:Int)] w fun e w'=>e= .returned .nilIface∧∃F',NdAt w' nb F' (N.start kind)∧(∀q∈F',q∈F∨w.heap.size≤q)∧Mod [nb] w w':=by
 obtain⟨hs,_⟩:=start_ok ho hi hgl hk h0;have hph:=hs.ph;have hK:KindOk (N.start kind):=hph.1;obtain⟨k1,k2,k3,k4,k5⟩:=kind_each (N:=N.start kind) ho.pw hK;have hd:=ho.deep
 have hd':N.dpt<5∨(N.start kind).many=1∧N.dpt≤5:=by
  rcases hK with h1|h1|h1
  ·exact .inr ⟨by unfold Nd.many;rw[h1];rfl,hd⟩
  ·exact .inr ⟨by unfold Nd.many;rw[h1.1];rfl,hd⟩
  ·exact .inl h1.2.2
 unfold NdAt at h;rw[hi]at h;obtain⟨tb,gb,h1,h2,rfl,h3,h4⟩:=h;refine(node_Start nb tb gb kind (N.start kind).each (N.start kind).many N.dpt N.pfx N.kind N.T hd' w h1 h2 ho.tg.ok k1 k5 h3 h4).mono ?_;rintro e w' ⟨rfl,db,hb,⟨rb,cap,bl,l1,l2,l3,l4,hdu⟩,hm⟩;have hnl:=h1.lt;refine⟨rfl,nb::footB db rb tb gb bl, ?_,fun q hq=> ?_,hm⟩
 ·unfold NdAt;show∃db rb cap ob og bl,_;refine⟨db,rb,cap,tb,gb,bl,hb,hdu,l4,rfl,fun hh=> ?_⟩;simp only[footB,List.mem_cons]at hh;rcases hh with e|e|e|e|e
  ·omega
  ·omega
  ·exact h3 e
  ·exact h4 e
  ·have:=l3 nb e;omega
 ·simp only[footB,List.mem_cons]at hq;rcases hq with e|e|e|e|e|e
  ·exact .inl (by simp[e])
  ·exact .inr (by omega)
  ·exact .inr (by omega)
  ·exact .inl (by simp[e])
  ·exact .inl (by simp[e])
  ·exact .inr (l3 q e)
theorem nd_Least (key hash:Nat)(h:NdAt w nb F N)(ho:NOk H N)(hM:MetP w P x)(hE:Env W0 E w)(hb0:W0.heap.size≤P.mb)(hF:P.mb∉F):
  Calls Tryz.prog 120 #[nodeP nb,lensV (some ⟨P.mb,P.mo,none⟩) cP,.int .u64 (hash:Int),.int .u64 (key:Int)] w fun e w'=>∃o x',e= .returned (optE o)∧IsLeast ⟨key,0,hash⟩ N.ents o∧MetP w' P x'∧Cost x x' 192 0∧Mod [P.mb] w w':=by
 have hl:=ho.pw.le;have hph:=ho.ph;unfold PhOk at hph;unfold NdAt at h
 have fin:∀(w':World) (n:Nat),Through (fun V V'=>MetP V' P (x.add cP n)∧Mod [P.mb] V V') w w'→n≤192→∃x',MetP w' P x'∧Cost x x' 192 0∧Mod [P.mb] w w':=fun w' n ht hn=>by
  obtain⟨h1,h2⟩:=ht.out (by simpa using hM.lt) (fun V' g hg hR hm=>hR.mod hm (by have:=hM.lt;simp;omega));exact⟨_,h1,(cost_P x n).mono hn (Nat.le_refl _),h2⟩
 cases hp:N.ph with
 |idle=>
  rw[hp]at h;obtain⟨tb,gb,h1,h2,rfl,h3,h4⟩:=h
  have hE':N.ents=entsT N.T.gs:=by unfold Nd.ents;rw[hp];rfl
  refine(node_Least_tab nb tb N.pfx N.dpt N.kind hash key P cP ((leastL ⟨key,0,hash⟩ none (entsT N.T.gs)).getD ⟨0,0,0⟩) (leastL ⟨key,0,hash⟩ none (entsT N.T.gs)).isSome [P.mb] (fun V V'=>MetP V' P (x.add cP N.T.gs.length)∧Mod [P.mb] V V') w h1 (by simpa using hM.lt) fun V hV=> ?_).mono fun e w' ⟨a,b⟩=> ?_
  ·exact(table_Least tb gb N.T P x cP hash key hl V (h2.below hV) (hM.below hV) (hE.next hV) (fun e=>hF (by simp[e])) (fun e=>hF (by simp[e])) hb0).mono fun e V' ⟨a,b,c⟩=>⟨a,c,b,c⟩
  ·obtain⟨x',c,d⟩:=fin w' _ b (by unfold Nd.len at hl;omega);exact⟨_,x',a,by rw[hE'];exact isLeast_L _ _,c,d⟩
 |bld k=>
  rw[hp]at h;obtain⟨db,rb,cap,ob,og,bl,h1,h2,h3,rfl,h4⟩:=h
  have hE':N.ents=entsTs [N.T]:=by unfold Nd.ents;rw[hp];simp[frs,entsTs]
  have hob:P.mb≠ob:=fun e=>hF (by simp[footB,e]);have hog:P.mb≠og:=fun e=>hF (by simp[footB,e]);refine(node_Least_dual nb ob db N.pfx N.dpt N.kind hash key P cP ((leastTs ⟨key,0,hash⟩ [N.T]).getD ⟨0,0,0⟩) (leastTs ⟨key,0,hash⟩ [N.T]).isSome [P.mb] (fun V V'=>MetP V' P (x.add cP (sumG [N.T]))∧Mod [P.mb] V V') w h1 (by simpa using hM.lt) fun V hV=> ?_).mono fun e w' ⟨a,b⟩=> ?_
  ·have h2':=h2.mod (Mod.of_below hV []) (by simp)
   have hts:TabsAt V [(ob,og)] [N.T]:=by
    have:=(TabsAt.mk (w:=V) (bs:=[]) (Ts:=[]) rfl (fun j b T hb=>by simp at hb) (fun i j b c hb=>by simp at hb)).snoc h2'.tab (by simp[flatB]) (by simp[flatB]);simpa using this
   exact(dual_Least db ob 0 none [] (by simp) _ _ _ _ [(ob,og)] [N.T] P x cP hash key V h2'.blk ⟨by simp[ptrs],fun hh=>by simp at hh⟩ rfl hts (fun T hT=>by simp at hT;subst hT;exact hl) (hM.below hV) (hE.next hV) hb0 (fun b hb=>by simp at hb;subst hb;exact⟨hob,hog⟩)).mono fun e V' ⟨a,b,c⟩=>⟨a,c,b,c⟩
  ·obtain⟨x',c,d⟩:=fin w' _ b (by unfold sumG;unfold Nd.len at hl;simp;omega);exact⟨_,x',a,by rw[hE'];exact isLeast_Ts _ _,c,d⟩
 |mov Ts next=>
  rw[hp]at h hph;obtain⟨db,rb,cap,ob,og,fb,fcap,eb,vb,vcap,bbs,bs,h1,h2,h3,rfl,h4⟩:=h;obtain⟨g1,g2,g3,g4,g5⟩:=hph;obtain⟨k1,k2,k3,k4,_⟩:=kind_each ho.pw g1
  have hE':N.ents=entsTs (Ts++[N.T]):=by unfold Nd.ents;rw[hp];simp[frs,entsTs]
  have hg:∀T∈Ts++[N.T],T.gs.length≤64:=fun T hT=>by
   rcases List.mem_append.1 hT with h5|h5
   ·obtain⟨j,hj⟩:=List.getElem?_of_mem h5;rw[(g3.tg j T hj).2];exact k1.le
   ·simp at h5;subst h5;exact hl
  have hsum:∀l:List TabM,(∀T∈l,T.gs.length≤64)→sumG l≤64*l.length:=fun l=>by
   induction l with
   |nil=>intro _;simp[sumG]
   |cons T l ih=>
    intro hh;have h6:=ih (fun X hX=>hh X (by simp[hX]));have h7:=hh T (by simp);unfold sumG at h6⊢;simp only[List.map_cons,List.sum_cons,List.length_cons];omega
  have hs:=hsum _ hg;have hlen:=g3.len;rw[List.length_append,List.length_singleton,hlen]at hs;refine(node_Least_dual nb ob db N.pfx N.dpt N.kind hash key P cP ((leastTs ⟨key,0,hash⟩ (Ts++[N.T])).getD ⟨0,0,0⟩) (leastTs ⟨key,0,hash⟩ (Ts++[N.T])).isSome [P.mb] (fun V V'=>MetP V' P (x.add cP (sumG (Ts++[N.T])))∧Mod [P.mb] V V') w h1 (by simpa using hM.lt) fun V hV=> ?_).mono fun e w' ⟨a,b⟩=> ?_
  ·have h2':=h2.mod (Mod.of_below hV []) (by simp);have hnd:=h2.nd;unfold footM at hnd;simp only[List.nodup_cons,List.mem_cons,List.mem_append,not_or]at hnd;obtain⟨_,_,_,_,_,⟨_,_,f8⟩,⟨_,g8⟩,_⟩:=hnd;have hts:=h2'.tabs.snoc h2'.tab f8 g8
   exact(dual_Least db ob fcap (some ⟨fb,0,none⟩) (bs.map Prod.fst) (by rw[List.length_map];omega) _ _ _ _ (bs++[(ob,og)]) (Ts++[N.T]) P x cP hash key V (by rw[List.length_map];exact h2'.blk) (RowAt.reads h2'.fresh) (by simp) hts hg (hM.below hV) (hE.next hV) hb0 (fun b hb=>by
    rcases List.mem_append.1 hb with h5|h5
    ·obtain⟨m1,m2⟩:=mem_footM_t (db:=db) (rb:=rb) (fb:=fb) (eb:=eb) (vb:=vb) (ob:=ob) (og:=og) (bbs:=bbs) h5;exact⟨fun e=>hF (by rw[e];simp[m1]),fun e=>hF (by rw[e];simp[m2])⟩
    ·simp at h5;subst h5
     exact⟨fun e=>hF (by simp[footM,e]),fun e=>hF (by simp[footM,e])⟩)).mono fun e V' ⟨a,b,c⟩=>⟨a,c,b,c⟩
  ·obtain⟨x',c,d⟩:=fin w' _ b (by omega);exact⟨_,x',a,by rw[hE'];exact isLeast_Ts _ _,c,d⟩
theorem len_two {α:Type}{l:List α}(h:l.length=2):∃a b,l=[a,b]:=by
 match l,h with
 | [a,b],_=>exact⟨a,b,rfl⟩
theorem nd_step_dual {nb tb db:Nat}{pfx dpt job:Int}{R:World→Prop}(h:Blk w nb 190 #[.int .i64 pfx,.int .i64 dpt,.pointer (some ⟨tb,0,none⟩),.int .i64 job,.pointer (some ⟨db,0,none⟩)])(hc:Calls Tryz.prog 286 #[dualP db,.pointer (some ⟨P.mb,P.mo,none⟩)] w fun e w'=>e= .returned (.bool true)∧R w'):
  Calls Tryz.prog 285 #[nodeP nb,.pointer (some ⟨P.mb,P.mo,none⟩)] w fun e w'=>e= .returned (.bool true)∧R w':=node_Step_dual nb tb db pfx dpt job P (fun _ V'=>R V') w h hc
theorem nd_Step (h:NdAt w nb F N)(ho:NOk H N)(hl:1≤N.left)(hM:MetP w P x)(hE:Env W0 E w)(hb0:W0.heap.size≤P.mb)(hF:P.mb∉F)(hbF:∀q∈F,W0.heap.size≤q):
  Calls Tryz.prog 285 #[nodeP nb,mtrP P] w fun e w'=>e= .returned (.bool true)∧∃F' x',NdAt w' nb F' N.step∧(∀q∈F',q∈F∨w.heap.size≤q)∧MetP w' P x'∧Cost x x' 0 1∧Mod (P.mb::F) w w':=by
 have hL:=step_like N
 have hdep:N.step.dep=N.dep:=by unfold Nd.dep;rw[hL.many,hL.dpt]
 have hcells:∀tb dv,ndCells N.step tb dv=ndCells N tb dv:=fun tb dv=>by unfold ndCells;rw[hL.pfx,hL.dpt,hL.kind]
 have hph:=ho.ph;unfold PhOk at hph;unfold NdAt at h
 cases hp:N.ph with
 |idle=>unfold Nd.left at hl;rw[hp]at hl;simp at hl
 |bld k=>
  rw[hp]at h hph;obtain⟨db,rb,cap,ob,og,bl,h1,h2,h3,rfl,h4⟩:=h;simp only[List.mem_cons,not_or]at hF;have hst:=dual_Step_bld db rb cap ob og bl N.T N.each N.dep k P x w h2 hM hE hF.2 hb0 (fun q hq=>hbF q (by simp[hq]));refine(nd_step_dual h1 hst).mono ?_;rintro e w' ⟨rfl,hM',hm,hif⟩;have hcost:Cost x ((x.add cV 1).add (cU 1) 1) 0 1:=(cost_V x 1).trans (cost_U _ 1)
  have hnb:nb∉P.mb::footB db rb ob og bl:=by simp only[List.mem_cons,not_or];exact⟨fun e=>hF.1 e.symm,h4⟩
  have hblk:=h1.mod hm hnb
  have hmod:Mod (P.mb::nb::footB db rb ob og bl) w w':=hm.more (fun q hq=>by
   rcases List.mem_cons.1 hq with e|e
   ·simp[e]
   ·simp[e])
  by_cases hk:k+1=N.each*N.many
  ·have hP:N.step.ph= .mov (List.replicate N.many (prepT N.each N.each)) 0:=by unfold Nd.step;rw[hp];simp only;rw[if_pos hk]
   have hT:N.step.T=N.T:=by unfold Nd.step;rw[hp]
   rw[if_pos (by rw[h3];exact hk)]at hif;obtain⟨fb,fcap,eb,vb,vcap,hdu,l1,l2,l3⟩:=hif;have hnl:=h1.lt
   have hin:∀q,q∈footM db rb fb eb vb ob og (bl.map fun b=>b.1) (blTabs bl)→q∈footB db rb ob og bl∨w.heap.size≤q:=fun q hq=>by
    unfold footM at hq;rw[List.mem_cons,List.mem_cons,List.mem_cons,List.mem_cons,List.mem_cons,List.mem_cons,List.mem_cons]at hq;rcases hq with e|e|e|e|e|e|e|e
    ·exact .inl (by simp[footB,e])
    ·exact .inl (by simp[footB,e])
    ·exact .inr (by omega)
    ·exact .inr (by omega)
    ·exact .inr (by omega)
    ·exact .inl (by simp[footB,e])
    ·exact .inl (by simp[footB,e])
    ·have:=mem_flat_blocks e;refine .inl ?_;unfold footB;rw[List.mem_cons,List.mem_cons,List.mem_cons,List.mem_cons];exact .inr (.inr (.inr (.inr this)))
   refine⟨rfl,nb::footM db rb fb eb vb ob og (bl.map fun b=>b.1) (blTabs bl),_, ?_,fun q hq=> ?_,hM',hcost,hmod⟩
   ·unfold NdAt;rw[hP,hT,hL.each,hdep];refine⟨db,rb,cap,ob,og,fb,fcap,eb,vb,vcap,bl.map fun b=>b.1,blTabs bl,by rw[hcells];exact hblk,by rw[←h3];exact hdu,by rw[hL.many,←h3];simp[blTabs],rfl,fun hh=> ?_⟩;rcases hin nb hh with e|e
    ·exact h4 e
    ·omega
   ·rcases List.mem_cons.1 hq with e|e
    ·exact .inl (by simp[e])
    ·rcases hin q e with e|e
     ·exact .inl (by simp[e])
     ·exact .inr e
  ·have hP:N.step.ph= .bld (k+1):=by unfold Nd.step;rw[hp];simp only;rw[if_neg hk]
   have hT:N.step.T=N.T:=by unfold Nd.step;rw[hp]
   rw[if_neg (by rw[h3];exact hk)]at hif;refine⟨rfl,nb::footB db rb ob og bl,_, ?_,fun q hq=> .inl hq,hM',hcost,hmod⟩;unfold NdAt;rw[hP,hT,hL.each,hdep];exact⟨db,rb,cap,ob,og,bl,by rw[hcells];exact hblk,hif,by rw[hL.many];exact h3,rfl,h4⟩
 |mov Ts next=>
  rw[hp]at h hph;obtain⟨db,rb,cap,ob,og,fb,fcap,eb,vb,vcap,bbs,bs,h1,h2,h3,rfl,h4⟩:=h
  have hn:next<N.len:=by unfold Nd.left at hl;rw[hp]at hl;simp only at hl;omega
  simp only[List.mem_cons,not_or]at hF;obtain⟨f1,f2,f3,f4,c,f5⟩:=ho.fits hp hn ((x.add (cU 1) 1).add cV 1)
  have hst:=dual_Step_mov db rb cap ob og fb fcap eb vb vcap bbs bs N.T Ts N.each N.dep next P x w h2 ho.tg.ok hn (by rw[h3];exact fits_dep f1) hM hE hF.2 hb0 (fun q hq=>hbF q (by simp[hq]))
  refine(nd_step_dual h1 hst).mono ?_;rintro e w' ⟨rfl,hdu,hM',hm⟩;rw[h3,moveL_dep]at hdu hM';rw[f5]at hM';have hcost:Cost x (((x.add (cU 1) 1).add cV 1).add cV c) 0 1:=((cost_U x 1).trans (cost_V _ 1)).trans (cost_V _ c)
  have hnb:nb∉P.mb::footM db rb fb eb vb ob og bbs bs:=by simp only[List.mem_cons,not_or];exact⟨fun e=>hF.1 e.symm,h4⟩
  have hP:N.step.ph= .mov (moveL N.many N.dpt (mtr0,Ts) (entsG (N.T.gs.getD next []))).2 (next+1):=by unfold Nd.step;rw[hp]
  have hT:N.step.T=takeN N.T next 8:=by unfold Nd.step;rw[hp]
  refine⟨rfl,nb::footM db rb fb eb vb ob og bbs bs,_, ?_,fun q hq=> .inl hq,hM',hcost,hm.more (fun q hq=>by
   rcases List.mem_cons.1 hq with e|e
   ·simp[e]
   ·simp[e])⟩
  unfold NdAt;rw[hP,hT,hL.each,hdep,moveL_any _ _ mtr0 ((x.add (cU 1) 1).add cV 1)];exact⟨db,rb,cap,ob,og,fb,fcap,eb,vb,vcap,bbs,bs,by rw[hcells];exact h1.mod hm hnb,hdu,by rw[hL.many];exact h3,rfl,h4⟩
theorem nd_End_one (h:NdAt w nb F N)(ho:NOk H N)(hb:N.ph.busy=true)(hl:N.left=0)(hm1:N.many=1):
  Calls Tryz.prog 165 #[nodeP nb] w fun e w'=>e= .returned (.tuple #[.pointer none,.nilIface])∧∃X F',NdAt w' nb F' ⟨N.pfx,N.dpt,0,0,X,.idle⟩∧NOk H ⟨N.pfx,N.dpt,0,0,X,.idle⟩∧(Nd.mk N.pfx N.dpt 0 0 X .idle).ents=N.ents∧X.gs.length=N.each∧(∀q∈F',q∈F)∧Mod F w w':=by
 obtain⟨Ts,hp,hT⟩:=ended ho hb hl;have hph:=ho.ph;unfold PhOk at hph;unfold NdAt at h;rw[hp]at h hph;obtain⟨db,rb,cap,ob,og,fb,fcap,eb,vb,vcap,bbs,bs,h1,h2,h3,rfl,h4⟩:=h;rw[hm1]at h3;obtain⟨b,rfl⟩:=List.length_eq_one_iff.1 h3;have hTl:=h2.tabs.len;rw[h3]at hTl;obtain⟨X,rfl⟩:=List.length_eq_one_iff.1 hTl.symm;obtain⟨e1,e2,e3,_⟩:=end_one ho hp hT;obtain⟨m1,m2⟩:=mem_footM_t (db:=db) (rb:=rb) (fb:=fb) (eb:=eb) (vb:=vb) (ob:=ob) (og:=og) (bbs:=bbs) (bs:=[b]) (b:=b) (by simp);refine(node_End_one nb ob db rb cap og fb fcap eb vb vcap b.1 b.2 bbs N.pfx N.dpt N.kind N.T [X] N.each N.dep N.len w h1 h2 ho.pw.le rfl (fun q hq e=>h4 (e▸hq))).mono ?_;rintro e w' ⟨rfl,hb',hts,hm⟩;refine⟨rfl,X,[nb,b.1,b.2], ?_,e1,e2,e3,fun q hq=> ?_,hm.more (fun q hq=> ?_)⟩
 ·exact⟨b.1,b.2,hb',hts.at_ 0 b X rfl rfl,rfl,fun e=>h4 (e▸m1),fun e=>h4 (e▸m2)⟩
 ·simp at hq;rcases hq with rfl|rfl|rfl
  ·simp
  ·simp[m1]
  ·simp[m2]
 ·simp at hq;rcases hq with rfl|rfl
  ·simp
  ·simp[footM]
theorem nd_End_two (h:NdAt w nb F N)(ho:NOk H N)(hb:N.ph.busy=true)(hl:N.left=0)(hm2:N.many=2):
  Calls Tryz.prog 165 #[nodeP nb] w fun e w'=>∃qb,e= .returned (.tuple #[nodeP qb,.nilIface])∧w.heap.size≤qb∧N.dpt<5∧∃X Y F' F2,NdAt w' nb F' ⟨2*N.pfx,N.dpt+1,0,0,X,.idle⟩∧NdAt w' qb F2 ⟨2*N.pfx+1,N.dpt+1,0,0,Y,.idle⟩∧NOk H ⟨2*N.pfx,N.dpt+1,0,0,X,.idle⟩∧NOk H ⟨2*N.pfx+1,N.dpt+1,0,0,Y,.idle⟩∧
   (Nd.mk (2*N.pfx) (N.dpt+1) 0 0 X .idle).ents++(Nd.mk (2*N.pfx+1) (N.dpt+1) 0 0 Y .idle).ents=N.ents∧X.gs.length=N.each∧Y.gs.length=N.each∧(∀q∈F',q∈F)∧(∀q∈F2,q∈F∨w.heap.size≤q)∧(∀q∈F',q∉F2)∧Mod F w w':=by
 obtain⟨Ts,hp,hT⟩:=ended ho hb hl;have hpf:=ho.pfx;have hdp:=ho.deep;unfold NdAt at h;rw[hp]at h;obtain⟨db,rb,cap,ob,og,fb,fcap,eb,vb,vcap,bbs,bs,h1,h2,h3,rfl,h4⟩:=h;rw[hm2]at h3;obtain⟨b,c,rfl⟩:=len_two h3;have hTl:=h2.tabs.len;rw[h3]at hTl;obtain⟨X,Y,rfl⟩:=len_two hTl.symm;obtain⟨e1,e2,e3,e4,e5,_,e6⟩:=end_two ho hp hT;obtain⟨m1,m2⟩:=mem_footM_t (db:=db) (rb:=rb) (fb:=fb) (eb:=eb) (vb:=vb) (ob:=ob) (og:=og) (bbs:=bbs) (bs:=[b,c]) (b:=b) (by simp);obtain⟨m3,m4⟩:=mem_footM_t (db:=db) (rb:=rb) (fb:=fb) (eb:=eb) (vb:=vb) (ob:=ob) (og:=og) (bbs:=bbs) (bs:=[b,c]) (b:=c) (by simp);have hlts:=h2.lts;have hnl:=h1.lt
 have hp32:N.pfx≤1000:=by
  have:2^N.dpt≤2^5:=Nat.pow_le_pow_right (by decide) hdp;omega
 refine(node_End_two nb ob db rb cap og fb fcap eb vb vcap b.1 b.2 c.1 c.2 bbs N.pfx N.dpt N.kind N.T [X,Y] N.each N.dep N.len w h1 h2 ho.pw.le rfl (fun q hq e=>h4 (e▸hq)) (by omega) (by omega)).mono ?_;rintro e w' ⟨qb,rfl,hb',hq',hql,hts,hm⟩;have hne:=hts.ne 0 1 b c rfl rfl (by decide);refine⟨qb,rfl,hql,e6,X,Y,[nb,b.1,b.2],[qb,c.1,c.2], ?_, ?_,e1,e2,e3,e4,e5,fun q hq=> ?_,fun q hq=> ?_,fun q hq hq2=> ?_,hm.more (fun q hq=> ?_)⟩
 ·refine⟨b.1,b.2, ?_,hts.at_ 0 b X rfl rfl,rfl,fun e=>h4 (e▸m1),fun e=>h4 (e▸m2)⟩;unfold ndCells;simpa using hb'
 ·refine⟨c.1,c.2, ?_,hts.at_ 1 c Y rfl rfl,rfl,fun e=> ?_,fun e=> ?_⟩
  ·unfold ndCells;simpa using hq'
  ·have:=hlts _ m3;omega
  ·have:=hlts _ m4;omega
 ·simp at hq;rcases hq with rfl|rfl|rfl
  ·simp
  ·simp[m1]
  ·simp[m2]
 ·simp at hq;rcases hq with rfl|rfl|rfl
  ·exact .inr hql
  ·exact .inl (by simp[m3])
  ·exact .inl (by simp[m4])
 ·simp at hq hq2;have g1:=hlts _ m1;have g2:=hlts _ m2
  rcases hq with rfl|rfl|rfl<;>rcases hq2 with e|e|e
  ·omega
  ·exact h4 (e▸m3)
  ·exact h4 (e▸m4)
  ·omega
  ·exact hne.1 e
  ·exact hne.2.1 e
  ·omega
  ·exact hne.2.2.1 e
  ·exact hne.2.2.2 e
 ·simp at hq;rcases hq with rfl|rfl
  ·simp
  ·simp[footM]
end
end
end Go.Proofs.YthfgacnlojmmfaaGreatDoor
