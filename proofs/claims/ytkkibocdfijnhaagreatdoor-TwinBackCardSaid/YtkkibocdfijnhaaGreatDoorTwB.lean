/- Package twin: what is there behind all (End). No statement of the claim. -/
import Derived.Test.YtkkibocdfijnhaaGreatDoorTwA
import Derived.Test.YtkkibocdfijnhaaGreatDoorPlA
import Derived.Test.YtkkibocdfijnhaaGreatDoorPlD
import Derived.Test.YtkkibocdfijnhaaGreatDoorPlE
namespace Go.Proofs.YtkkibocdfijnhaaGreatDoor
open Go.RowKit bV tF IC
variable {W0 w : World} {E : Nat → Addr} {H : Nat → Nat} {I K M b k v : Nat} {G : List Nat} {s : St} {R : Nat → Option Nat} {L : List aV} {P : PL}
theorem II:∀{ks L:List Nat},ks.Nodup→(∀k∈ks,k∈L)→ks.length≤L.length
 | [],_,_,_=>Nat.zero_le _
 |k::ks,L,hn,hs=>by
  rw[List.nodup_cons]at hn;have hk:=hs k (by simp);have:=II (ks:=ks) (L:=L.erase k) hn.2 (fun x hx=>(List.mem_erase_of_ne (fun e=>hn.1 (by rw[←e];exact hx))).2 (hs x (by simp[hx])));rw[List.length_erase_of_mem hk]at this;have:=List.length_pos_of_mem hk;rw[List.length_cons];omega
theorem gH.count (h:gH W0 E H K M I b G w s){ks:List Nat}(hn:ks.Nodup)(hs:∀k∈ks,(s.R k).isSome=true):ks.length≤s.n:=by
 obtain⟨its,⟨a,ids,fC,h1,hf,hl⟩,_⟩:=h
 have:=II (L:=a.ents.map ay.key) hn (fun k hk=>by
  have h2:=hs k hk;rw[←hf]at h2;unfold rA at h2
  cases hlk:look a.ents k with
  |none=>rw[hlk]at h2;cases h2
  |some e=>
   obtain⟨h3,h4⟩:=oN hlk
   exact h4▸List.mem_map_of_mem h3)
 rw[List.length_map]at this;omega
theorem Zo {o o':Option Nat}(h:∀u,o=some u↔o'=some u):o=o':=by
 cases o with
 |none=>
  cases o' with
  |none=>rfl
  |some u=>exact absurd ((h u).2 rfl) (by simp)
 |some u=>exact((h u).1 rfl).symm
theorem WE {t:PL}(ht:lW t)(k v x:Nat):uy (vS t k v) x=if x=k then some v else uy t x:=by
 refine Zo fun u=> ?_;rw[qw (Gb ht k v),Zh ht];by_cases hx:x=k
 ·subst hx;rw[if_pos rfl];constructor
  ·rintro(h|⟨_,h⟩)
   ·injection h with _ h;rw[h]
   ·exact absurd rfl h
  ·intro h
   injection h with h
   exact .inl (by rw[h])
 ·rw[if_neg hx,qw ht];constructor
  ·rintro(h|⟨h,_⟩)
   ·injection h with h;exact absurd h hx
   ·exact h
  ·exact fun h=> .inr ⟨h,hx⟩
theorem o7:∀(t pre:List aV) (o:aV),o∈jT pre t→o∈t∧eG o.kind=true
 | [],_,o,h=>by cases h
 |x::t,pre,o,h=>by
  unfold jT at h;split at h
  ·next hc=>
   rcases List.mem_cons.1 h with rfl|h
   ·exact⟨by simp,(Bool.and_eq_true_iff.1 hc).1⟩
   ·exact⟨by simp[(o7 t _ o h).1],(o7 t _ o h).2⟩
  ·exact⟨by simp[(o7 t _ o h).1],(o7 t _ o h).2⟩
theorem adG {l:List aV}{o:aV}(h:o∈firsts l):o∈l∧eG o.kind=true:=o7 l [] o h
theorem Tn {l:List aV}{o:aV}(h:o∈l)(hk:eG o.kind=true):∃x∈firsts l,x.key=o.key:=by
 have:=OV l o;rw[List.any_eq_true.2 ⟨o,h,by unfold fH;simp[hk]⟩]at this;obtain⟨x,hx,he⟩:=List.any_eq_true.1 this.symm;exact⟨x,hx,by simpa using he⟩
theorem WG {o:aV}(h:((oo M I s o).R k).isSome=true):(s.R k).isSome=true∨(eG o.kind=true∧o.key.toNat=k):=by
 unfold oo at h;split at h
 ·next hk=>
  simp only at h;unfold FW at h;split at h
  ·exact .inl h
  ·simp only at h;split at h
   ·next e=>exact .inr ⟨by rw[hk];rfl,e.symm⟩
   ·exact .inl h
 split at h
 ·simp only at h;unfold FY at h;split at h
  ·cases h
  ·exact .inl h
 split at h
 ·cases h
 split at h
 ·split at h<;>exact .inl h
 split at h<;>exact .inl h
theorem EW:∀{l:List aV} {s:St},((kV M I s l).R k).isSome=true→(s.R k).isSome=true∨∃o∈l,eG o.kind=true∧o.key.toNat=k
 | [],_,h=> .inl h
 |o::l,s,h=>by
  rcases EW (l:=l) (s:=oo M I s o) h with h|⟨x,hx,h⟩
  ·rcases WG h with h|h
   ·exact .inl h
   ·exact .inr ⟨o,by simp,h⟩
  ·exact .inr ⟨x,by simp[hx],h⟩
structure nR (R:Nat→Option Nat)(L:List aV)(P:PL):Prop where
 rC:lW P
 get:∀k,uy P k=if L.any (fun o=>o.key.toNat==k)=true then R k else none
theorem nR.nil (R:Nat→Option Nat):nR R [] []:=⟨List.Pairwise.nil,fun k=>rfl⟩
theorem nR.some_ (h:nR R L P){o:aV}(hv:R o.key.toNat=some v):nR R (L++[o]) (vS P o.key.toNat v):=by
 refine⟨Gb h.rC _ _,fun k=> ?_⟩;rw[WE h.rC,h.get,List.any_append];by_cases hk:k=o.key.toNat
 ·rw[if_pos hk,if_pos (by simp[hk]),hk,hv]
 ·rw[if_neg hk]
  have:([o].any fun o=>o.key.toNat==k)=false:=by simp;omega
  rw[this,Bool.or_false]
theorem nR.none_ (h:nR R L P){o:aV}(hv:R o.key.toNat=none):nR R (L++[o]) P:=by
 refine⟨h.rC,fun k=> ?_⟩;rw[h.get,List.any_append];by_cases hk:k=o.key.toNat
 ·subst hk;rw[hv];simp
 ·have:([o].any fun o=>o.key.toNat==k)=false:=by simp;omega
  rw[this,Bool.or_false]
theorem IJ {l:PL}(h:lW l):(l.map Prod.fst).Nodup:=by
 unfold List.Nodup;rw[List.pairwise_map]
 exact h.imp fun h=>by omega
theorem nR.O7 (h:nR R L P)(hk:k∈P.map Prod.fst):(R k).isSome=true:=by
 obtain⟨p,hp,rfl⟩:=List.mem_map.1 hk;have:=(qw h.rC).2 (show(p.1,p.2)∈P from hp);rw[h.get]at this;split at this
 ·rw[this];rfl
 ·cases this
theorem nR.room (hD:gH W0 E H K M I b G w s)(h:nR s.R L P)(hv:s.R k=some v):(sK P k=false→P.length<M)∧P.length≤192:=by
 have hl:=hD.least;have h1:=hD.count (IJ h.rC) (fun k hk=>h.O7 hk);rw[List.length_map]at h1;refine⟨fun hp=> ?_,by omega⟩;rw[abv h.rC]at hp
 have hnk:k∉P.map Prod.fst:=fun hm=>by
  obtain⟨p,hp2,rfl⟩:=List.mem_map.1 hm;rw[(qw h.rC).2 (show(p.1,p.2)∈P from hp2)]at hp;cases hp
 have h2:=hD.count (ks:=k::P.map Prod.fst) (List.nodup_cons.2 ⟨hnk,IJ h.rC⟩) (fun x hx=>by
  rcases List.mem_cons.1 hx with rfl|hx
  ·rw[hv];rfl
  ·exact h.O7 hx)
 rw[List.length_cons,List.length_map]at h2;omega
theorem nR.end_ {l:List aV}(h:nR (kV M I vZ l).R (firsts l) P)(k:Nat):uy P k=(kV M I vZ l).R k:=by
 rw[h.get];split
 ·rfl
 ·next hc=>
  cases hr:(kV M I vZ l).R k with
  |none=>rfl
  |some v=>
   rcases EW (k:=k) (l:=l) (s:=vZ) (by rw[hr];rfl)with hz|⟨o,ho,hk,rfl⟩
   ·cases hz
   ·obtain⟨x,hx,he⟩:=Tn ho hk;exact absurd (List.any_eq_true.2 ⟨x,hx,by rw[he];simp⟩) hc
end Go.Proofs.YtkkibocdfijnhaaGreatDoor
