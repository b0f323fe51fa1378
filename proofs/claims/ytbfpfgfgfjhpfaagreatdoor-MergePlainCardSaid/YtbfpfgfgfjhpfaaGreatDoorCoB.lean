/- Groups of slots and tables of groups: where a key is sought, and what a write does. No program in sight. -/
import Derived.Test.YtbfpfgfgfjhpfaaGreatDoorCoA
import Derived.Test.YtbfpfgfgfjhpfaaGreatDoorSq
import Derived.Deep.RegionHeld3
import Derived.Deep.Cut
import Derived.Deep.CutRange
import Derived.Deep.RegionWith
import Derived.BigRegion
namespace Go.Proofs.YtbfpfgfgfjhpfaaGreatDoor.dP
set_option maxHeartbeats 2000000
open Go Go.RowKit dP
variable {α : Type} {i n s : Nat}
theorem getD_in {l:List α}{d:α}(hi:i<l.length):l.getD i d=l[i]:=by rw[List.getD_eq_getElem?_getD,List.getElem?_eq_getElem hi];rfl
theorem Bd {l:List α}{d:α}(hi:l.length≤i):l.getD i d=d:=by rw[List.getD_eq_getElem?_getD,List.getElem?_eq_none hi];rfl
structure av where
 key:Nat
 val:Nat
 hash:Nat
deriving DecidableEq
inductive Slot where
 |empty
 |qp
 |full (e:av)
deriving DecidableEq
abbrev kW:=List Slot
def Slot.byte:Slot→Nat
 | .empty=>128
 | .qp=>254
 | .full e=>e.hash % 128
def Slot.ents:Slot→List av
 | .full e=> [e]
 |_=> []
def Slot.isFull:Slot→Bool
 | .full _=>true
 |_=>false
def Slot.iY:Slot→Bool
 | .qp=>true
 |_=>false
def Slot.isEmpty:Slot→Bool
 | .empty=>true
 |_=>false
def Slot.isKey (key hash:Nat):Slot→Bool
 | .full e=>e.hash % 128==hash % 128 && e.key==key
 |_=>false
theorem aa3 (s:Slot):s.byte<256:=by cases s<;>simp[Slot.byte];omega
theorem U5 (G:kW):Bytes (G.map Slot.byte):=fun b hb=>by
 obtain⟨s,_,rfl⟩:=List.mem_map.1 hb;exact aa3 s
def word (G:kW):Nat:=w8 (G.map Slot.byte)
def dQ (G:kW):Bool:=G.any Slot.isEmpty
def iA (G:kW)(key hash:Nat):Option Nat:=G.findIdx? (Slot.isKey key hash)
def lG (G:kW):Option Nat:=G.findIdx? fun s=> !s.isFull
def bR (G:kW):List av:=G.flatMap Slot.ents
abbrev Tab:=List kW
def aF (gs:Tab)(i s:Nat):Slot:=(gs.getD i []).getD s .empty
def putAt (gs:Tab)(i s:Nat)(x:Slot):Tab:=gs.set i ((gs.getD i []).set s x)
def aI (gs:Tab):List av:=gs.flatMap bR
def fJ (gs:Tab):Nat:=(gs.map fun G=>G.countP Slot.iY).sum
def qZ (gs:Tab):Prop:=∀G∈gs,G.length=8
theorem qZ.at_ {gs:Tab}(h:qZ gs)(hi:i<gs.length):(gs.getD i []).length=8:=by
 rw[List.getD_eq_getElem?_getD,List.getElem?_eq_getElem hi];exact h _ (List.getElem_mem hi)
theorem qZ.put {gs:Tab}(h:qZ gs)(i s:Nat)(x:Slot):qZ (putAt gs i s x):=by
 intro G hG;unfold putAt at hG;by_cases hi:i<gs.length
 ·rcases List.mem_or_eq_of_mem_set hG with hG|rfl
  ·exact h G hG
  ·rw[List.length_set];exact h.at_ hi
 ·rw[List.set_eq_of_length_le (by omega)]at hG;exact h G hG
theorem iH (gs:Tab)(i s:Nat)(x:Slot):(putAt gs i s x).length=gs.length:=by simp[putAt]
theorem Hq (gs:Tab)(i s:Nat)(x:Slot)(j:Nat)(hi:i<gs.length):(putAt gs i s x).getD j []=if i=j then(gs.getD i []).set s x else gs.getD j []:=by
 unfold putAt;rw[List.getD_eq_getElem?_getD,List.getElem?_set];by_cases h:i=j
 ·subst h;rw[if_pos rfl,if_pos rfl,if_pos hi];rfl
 ·rw[if_neg h,if_neg h,←List.getD_eq_getElem?_getD]
theorem lH (gs:Tab)(i s:Nat)(x:Slot)(j k:Nat)(hi:i<gs.length)(hs:s<(gs.getD i []).length):aF (putAt gs i s x) j k=if i=j∧s=k then x else aF gs j k:=by
 unfold aF;rw[Hq gs i s x j hi];by_cases h:i=j
 ·subst h;rw[if_pos rfl,List.getD_eq_getElem?_getD,List.getElem?_set];by_cases hk:s=k
  ·subst hk;rw[if_pos rfl,if_pos hs,if_pos ⟨rfl,rfl⟩];rfl
  ·rw[if_neg hk,if_neg (by omega),←List.getD_eq_getElem?_getD]
 ·rw[if_neg h,if_neg (by omega)]
theorem kK {gs:Tab}(h:aF gs i s≠ .empty):i<gs.length∧s<(gs.getD i []).length:=by
 constructor
 ·rcases Nat.lt_or_ge i gs.length with hlt|hge
  ·exact hlt
  ·exact absurd (by unfold aF;rw[Bd (l:=gs) hge];rfl) h
 ·rcases Nat.lt_or_ge s (gs.getD i []).length with hlt|hge
  ·exact hlt
  ·exact absurd (by unfold aF;rw[Bd hge]) h
theorem Bf {gs:Tab}(hs:s<(gs.getD i []).length):(gs.getD i [])[s]?=some (aF gs i s):=by
 unfold aF;rw[getD_in hs,List.getElem?_eq_getElem hs]
theorem xK {l:List α}{d:α}(hi:i<l.length):l=l.take i++l.getD i d::l.drop (i+1):=by
 have h:l.getD i d=l[i]:=by rw[List.getD_eq_getElem?_getD,List.getElem?_eq_getElem hi];rfl
 rw[h,←List.drop_eq_getElem_cons hi,List.take_append_drop]
theorem oU {l:List α}(hi:i<l.length)(x:α):l.set i x=l.take i++x::l.drop (i+1):=by
 rw[List.set_eq_take_append_cons_drop,if_pos hi]
theorem Fb {gs:Tab}(hi:i<gs.length)(hs:s<(gs.getD i []).length):∃r1 r2,aI gs=r1++((aF gs i s).ents++r2)∧∀x,aI (putAt gs i s x)=r1++(x.ents++r2):=by
 refine⟨aI (gs.take i)++bR ((gs.getD i []).take s),bR ((gs.getD i []).drop (s+1))++aI (gs.drop (i+1)), ?_,fun x=> ?_⟩
 ·conv=>lhs;rw[xK (d:=[]) hi,xK (d:= .empty) hs]
  simp[aI,bR,aF]
 ·unfold putAt;rw[oU hi,oU hs];simp[aI,bR]
theorem C9 {gs:Tab}(hi:i<gs.length)(hs:s<(gs.getD i []).length)(x:Slot):((aF gs i s).ents++aI (putAt gs i s x)).Perm (x.ents++aI gs):=by
 obtain⟨r1,r2,h1,h2⟩:=Fb hi hs;rw[h1,h2];generalize(aF gs i s).ents=a
 have e1:(a++(r1++(x.ents++r2))).Perm (x.ents++(a++(r1++r2))):=by
  have:=(List.perm_append_comm (l₁:=r1) (l₂:=x.ents)).append_right r2;rw[List.append_assoc,List.append_assoc]at this;refine(this.append_left a).trans ?_;have h3:=(List.perm_append_comm (l₁:=a) (l₂:=x.ents)).append_right (r1++r2);rw[List.append_assoc,List.append_assoc]at h3;exact h3
 refine e1.trans (List.Perm.append_left _ ?_);have:=(List.perm_append_comm (l₁:=a) (l₂:=r1)).append_right r2;rw[List.append_assoc,List.append_assoc]at this;exact this
def Slot.kU (x:Slot):Nat:=if x.iY then 1 else 0
theorem wM {gs:Tab}(hi:i<gs.length)(hs:s<(gs.getD i []).length)(x:Slot):(aF gs i s).kU+fJ (putAt gs i s x)=x.kU+fJ gs:=by
 have e1:fJ gs=(fJ (gs.take i)+(List.countP Slot.iY ((gs.getD i []).take s)+((aF gs i s).kU+List.countP Slot.iY ((gs.getD i []).drop (s+1)))))+fJ (gs.drop (i+1)):=by
  conv=>lhs;rw[xK (d:=[]) hi,xK (d:= .empty) hs]
  simp[fJ,aF,Slot.kU,List.countP_cons]
  split<;>omega
 have e2:fJ (putAt gs i s x)=(fJ (gs.take i)+(List.countP Slot.iY ((gs.getD i []).take s)+(x.kU+List.countP Slot.iY ((gs.getD i []).drop (s+1)))))+fJ (gs.drop (i+1)):=by
  unfold putAt;rw[oU hi,oU hs];simp[fJ,Slot.kU,List.countP_cons]
  split<;>omega
 omega
theorem rJ {gs:Tab}{e:av}:e∈aI gs↔∃i s,aF gs i s= .full e:=by
 unfold aI bR;simp only[List.mem_flatMap];constructor
 ·rintro⟨G,hG,x,hx,he⟩;obtain⟨i,hi,rfl⟩:=List.mem_iff_getElem.1 hG;obtain⟨s,hs,rfl⟩:=List.mem_iff_getElem.1 hx;refine⟨i,s, ?_⟩
  have h1:gs.getD i []=gs[i]:=by rw[List.getD_eq_getElem?_getD,List.getElem?_eq_getElem hi];rfl
  have h2:aF gs i s=gs[i][s]:=by unfold aF;rw[h1,List.getD_eq_getElem?_getD,List.getElem?_eq_getElem hs];rfl
  rw[h2];revert he
  cases gs[i][s]<;>simp[Slot.ents]
  exact fun h=>h.symm
 ·rintro⟨i,s,h⟩;obtain⟨hi,hs⟩:=kK (gs:=gs) (i:=i) (s:=s) (by rw[h];exact fun h=>by cases h)
  have h1:gs.getD i []=gs[i]:=by rw[List.getD_eq_getElem?_getD,List.getElem?_eq_getElem hi];rfl
  refine⟨gs.getD i [],by rw[h1];exact List.getElem_mem hi,aF gs i s, ?_,by rw[h];simp[Slot.ents]⟩;exact List.mem_of_getElem? (Bf hs)
def Hr (j:Nat):Nat:=j*(j+1)/2
def bZ (h n j:Nat):Nat:=(h+Hr j) % n
def walk (h n:Nat):List Nat:=(List.range n).map (bZ h n)
def Pw (n:Nat):Prop:=n=1∨n=2∨n=4∨n=8∨n=16∨n=32∨n=64
theorem aa4 (h:Pw n):∀d,d<n→∃j,j<n∧Hr j % n=d:=by
 have H:∀n∈[1,2,4,8,16,32,64],∀d:Fin n,(List.range n).any (fun j=>Hr j % n==d.val)=true:=by decide+kernel
 intro d hd;have:=H n (by unfold Pw at h;simp;omega) ⟨d,hd⟩;rw[List.any_eq_true]at this;obtain⟨j,hj,he⟩:=this;exact⟨j,List.mem_range.1 hj,by simpa using he⟩
theorem Pw.pos (h:Pw n):0<n:=by unfold Pw at h;omega
theorem Pw.le (h:Pw n):n≤64:=by unfold Pw at h;omega
theorem Yd (hn:Pw n)(h i:Nat)(hi:i<n):∃j,j<n∧bZ h n j=i:=by
 obtain⟨j,hj,he⟩:=aa4 hn ((i+n-h % n) % n) (Nat.mod_lt _ hn.pos);refine⟨j,hj, ?_⟩;unfold bZ;have hm:=Nat.mod_lt h hn.pos;rw[Nat.add_mod,he,Nat.add_mod_mod,show h % n+(i+n-h % n)=i+n by omega,Nat.add_mod_right,Nat.mod_eq_of_lt hi]
def iV (fr:Option (Nat×Nat))(i:Nat)(G:kW):Option (Nat×Nat):=match fr with|some x=>some x|none=>(lG G).map fun s=>(i,s)
def jg (gs:Tab)(key hash:Nat):Nat→Nat→Option (Nat×Nat)→Option (Nat×Nat)×Option (Nat×Nat)×Nat
 |0,_,fr=>(none,fr,0)
 |f+1,j,fr=>
  let i:=bZ (hash/128) gs.length j
  let G:=gs.getD i []
  let fr':=iV fr i G
  match iA G key hash with
  |some s=>(some (i,s),fr',1)
  |none=>if dQ G then(none,fr',1)else
   let r:=jg gs key hash f (j+1) fr'
   (r.1,r.2.1,r.2.2+1)
def aH (gs:Tab)(key hash:Nat):Option (Nat×Nat)×Option (Nat×Nat)×Nat:=jg gs key hash gs.length 0 none
theorem Ac (gs:Tab)(key hash:Nat):∀f j fr,(jg gs key hash f j fr).2.2≤f
 |0,_,_=>Nat.le_refl _
 |f+1,j,fr=>by
  unfold jg;simp only;split
  ·simp
  ·split
   ·simp
   ·have:=Ac gs key hash f (j+1) (iV fr (bZ (hash/128) gs.length j) (gs.getD (bZ (hash/128) gs.length j) []));simp only;omega
end Go.Proofs.YtbfpfgfgfjhpfaaGreatDoor.dP

/-! A table's laws: who is there is found where it stands; a free place is found; what writes leave. No program in sight. -/
namespace Go.Proofs.YtbfpfgfgfjhpfaaGreatDoor.dP
set_option maxHeartbeats 2000000
open Go Go.RowKit dP
variable {α : Type} {hash i j k key s : Nat} {gs : Tab} {e : av} {G : kW}
theorem Gf {p:α→Bool}{l:List α}(h:l.findIdx? p=some k):∃x,l[k]?=some x∧p x=true∧∀j y,j<k→l[j]?=some y→p y=false:=by
 obtain⟨hk,hp,hn⟩:=List.findIdx?_eq_some_iff_getElem.1 h;refine⟨l[k],List.getElem?_eq_getElem hk,hp,fun j y hj hy=> ?_⟩;obtain⟨hj2,rfl⟩:=List.getElem?_eq_some_iff.1 hy;simpa using hn j hj
theorem Nj {p:α→Bool}{l:List α}(h:l.findIdx? p=none):∀x∈l,p x=false:=by
 intro x hx;have:=List.findIdx?_eq_none_iff.1 h x hx;simpa using this
theorem ab4 {p:α→Bool}{l:List α}{x:α}(hx:l[k]?=some x)(hp:p x=true)(hu:∀j y,l[j]?=some y→p y=true→j=k):l.findIdx? p=some k:=by
 cases h:l.findIdx? p with
 |none=>
  have:=Nj h x (List.mem_of_getElem? hx);rw[hp]at this;cases this
 |some j=>
  obtain⟨y,h1,h2,_⟩:=Gf h;rw[hu j y h1 h2]
structure zD (gs:Tab):Prop where
 wide:qZ gs
 pow:Pw gs.length
 uniq:∀i s i' s' e e',aF gs i s= .full e→aF gs i' s'= .full e'→e.key=e'.key→i=i'∧s=s'
 reach:∀i s e,aF gs i s= .full e→∃j,j<gs.length∧bZ (e.hash/128) gs.length j=i∧∀j',j'<j→dQ (gs.getD (bZ (e.hash/128) gs.length j') [])=false
theorem full_of {x:Slot}(h:x.isKey key hash=true):∃e,x= .full e∧e.key=key∧e.hash % 128=hash % 128:=by
 cases x with
 |full e=>simp[Slot.isKey]at h;exact⟨e,rfl,h.2,h.1⟩
 |_=>simp[Slot.isKey]at h
theorem Ht (h:iA (gs.getD i []) key hash=some s):∃e,aF gs i s= .full e∧e.key=key∧e.hash % 128=hash % 128:=by
 obtain⟨x,h1,h2,_⟩:=Gf h;obtain⟨e,rfl,h3,h4⟩:=full_of h2;obtain⟨hs,hx⟩:=List.getElem?_eq_some_iff.1 h1;refine⟨e, ?_,h3,h4⟩;unfold aF;rw[getD_in hs,hx]
theorem Kh {x:Slot}(h:(gs.getD i [])[s]?=some x):aF gs i s=x:=by
 obtain⟨hs,hx⟩:=List.getElem?_eq_some_iff.1 h;unfold aF;rw[getD_in hs,hx]
theorem Ad (gs:Tab)(key hash:Nat):∀f j fr i s,(jg gs key hash f j fr).1=some (i,s)→∃e,aF gs i s= .full e∧e.key=key∧e.hash % 128=hash % 128
 |0,_,_,_,_,h=>by simp[jg]at h
 |f+1,j,fr,i,s,h=>by
  unfold jg at h;simp only at h;split at h
  ·next s' hs'=>
   injection h with h
   injection h with h1 h2
   subst h1 h2;exact Ht hs'
  ·split at h
   ·cases h
   ·exact Ad gs key hash f (j+1) _ i s h
theorem Hu (h:(aH gs key hash).1=some (i,s)):∃e,aF gs i s= .full e∧e.key=key∧e.hash % 128=hash % 128:=Ad gs key hash _ _ _ i s h
theorem Ae (hT:zD gs)(he:aF gs i s= .full e){t:Nat}(ht:bZ (e.hash/128) gs.length t=i)(hm:∀j,j<t→bZ (e.hash/128) gs.length j≠i)(hc:∀j,j<t→dQ (gs.getD (bZ (e.hash/128) gs.length j) [])=false):∀f j fr,j≤t→t<j+f→(jg gs e.key e.hash f j fr).1=some (i,s)
 |0,_,_,h1,h2=>by omega
 |f+1,j,fr,h1,h2=>by
  unfold jg;simp only;by_cases hj:j=t
  ·subst hj;rw[ht]
   have:iA (gs.getD i []) e.key e.hash=some s:=by
    have hl:=(kK (gs:=gs) (i:=i) (s:=s) (by rw[he];exact fun h=>by cases h)).2;refine ab4 (Bf hl) (by rw[he];simp[Slot.isKey]) fun k y hy hp=> ?_;obtain⟨e',rfl,h3,_⟩:=full_of hp;exact(hT.uniq i k i s e' e (Kh hy) he h3).2
   rw[this]
  ·have hn:iA (gs.getD (bZ (e.hash/128) gs.length j) []) e.key e.hash=none:=by
    cases h:iA (gs.getD (bZ (e.hash/128) gs.length j) []) e.key e.hash with
    |none=>rfl
    |some k=>
     obtain⟨e',h3,h4,_⟩:=Ht h;exact absurd (hT.uniq _ _ _ _ e' e h3 he h4).1 (hm j (by omega))
   rw[hn];simp only;rw[if_neg (by rw[hc j (by omega)];simp)];exact Ae hT he ht hm hc f (j+1) _ (by omega) (by omega)
theorem Ye {p:Nat→Prop}(h:p j):∃t,t≤j∧p t∧∀k,k<t→¬p k:=by
 induction j using Nat.strongRecOn with
 |ind j ih=>
  by_cases hk:∃k,k<j∧p k
  ·obtain⟨k,hk,hp⟩:=hk;obtain⟨t,h1,h2,h3⟩:=ih k hk hp;exact⟨t,by omega,h2,h3⟩
  ·exact⟨j,Nat.le_refl _,h,fun k hkj hp=>hk ⟨k,hkj,hp⟩⟩
theorem SK (hT:zD gs)(he:aF gs i s= .full e):(aH gs e.key e.hash).1=some (i,s):=by
 obtain⟨j,hj,hw,hc⟩:=hT.reach i s e he;obtain⟨t,h1,h2,h3⟩:=Ye (p:=fun j=>bZ (e.hash/128) gs.length j=i) hw;exact Ae hT he h2 h3 (fun k hk=>hc k (by omega)) _ _ _ (Nat.zero_le _) (by omega)
theorem rM (h:∀e∈aI gs,e.key≠key):(aH gs key hash).1=none:=by
 cases hs:(aH gs key hash).1 with
 |none=>rfl
 |some x=>
  obtain⟨e,h1,h2,_⟩:=Hu (i:=x.1) (s:=x.2) hs;exact absurd h2 (h e (rJ.2 ⟨_,_,h1⟩))
def vo (gs:Tab)(hash i s:Nat):Prop:=
 i<gs.length∧s<(gs.getD i []).length∧(aF gs i s).isFull=false∧∃j,j<gs.length∧bZ (hash/128) gs.length j=i∧∀j',j'<j→dQ (gs.getD (bZ (hash/128) gs.length j') [])=false
theorem U6 (h:dQ G=true):∃s,lG G=some s:=by
 unfold dQ at h;obtain⟨x,hx,he⟩:=List.any_eq_true.1 h
 cases hf:lG G with
 |some s=>exact⟨s,rfl⟩
 |none=>
  have:=Nj hf x hx
  cases x<;>simp_all[Slot.isEmpty,Slot.isFull]
theorem free_at (hn:0<gs.length)(hj:j<gs.length)(hs:lG (gs.getD (bZ (hash/128) gs.length j) [])=some s)(hc:∀j',j'<j→dQ (gs.getD (bZ (hash/128) gs.length j') [])=false):
  vo gs hash (bZ (hash/128) gs.length j) s:=by
 obtain⟨x,h1,h2,_⟩:=Gf hs;obtain⟨hlt,_⟩:=List.getElem?_eq_some_iff.1 h1;refine⟨Nat.mod_lt _ hn,hlt, ?_,j,hj,rfl,hc⟩;rw[Kh h1];simpa using h2
theorem Cq (hn:0<gs.length):∀f j fr,j+f=gs.length→
  (∀j',j'<j→dQ (gs.getD (bZ (hash/128) gs.length j') [])=false)→
  (match fr with|some x=>vo gs hash x.1 x.2|none=>∀j',j'<j→lG (gs.getD (bZ (hash/128) gs.length j') [])=none)→
  (∃j,j<gs.length∧dQ (gs.getD (bZ (hash/128) gs.length j) [])=true)→
  (jg gs key hash f j fr).1=none→∃i s,(jg gs key hash f j fr).2.1=some (i,s)∧vo gs hash i s
 |0,j,fr,hj,hc,hf,ho,_=>by
  cases fr with
  |some x=>exact⟨x.1,x.2,rfl,hf⟩
  |none=>
   obtain⟨j',h1,h2⟩:=ho;have:=hc j' (by omega);rw[this]at h2;cases h2
 |f+1,j,fr,hj,hc,hf,ho,hnone=>by
  have hfr:∀fr',fr'=iV fr (bZ (hash/128) gs.length j) (gs.getD (bZ (hash/128) gs.length j) [])→
    (match fr' with|some x=>vo gs hash x.1 x.2|none=>∀j',j'<j+1→lG (gs.getD (bZ (hash/128) gs.length j') [])=none):=by
   intro fr' Gg
   cases fr with
   |some x=>simp only[iV]at Gg;subst Gg;exact hf
   |none=>
    simp only[iV]at Gg hf
    cases hg:lG (gs.getD (bZ (hash/128) gs.length j) [])with
    |some s=>
     rw[hg]at Gg;subst Gg;exact free_at hn (by omega) hg hc
    |none=>
     rw[hg]at Gg;subst Gg;intro j' hj';by_cases he:j'=j
     ·rw[he];exact hg
     ·exact hf j' (by omega)
  unfold jg at hnone⊢;simp only at hnone⊢;generalize Af:iV fr (bZ (hash/128) gs.length j) (gs.getD (bZ (hash/128) gs.length j) [])=fr' at hnone⊢;have hf':=hfr fr' Af.symm
  cases hfind:iA (gs.getD (bZ (hash/128) gs.length j) []) key hash with
  |some s=>rw[hfind]at hnone;cases hnone
  |none=>
   rw[hfind]at hnone;simp only at hnone⊢
   cases hop:dQ (gs.getD (bZ (hash/128) gs.length j) [])with
   |true=>
    simp only[if_true]
    cases fr' with
    |some x=>exact⟨x.1,x.2,rfl,hf'⟩
    |none=>
     obtain⟨s,hs⟩:=U6 hop;rw[hf' j (by omega)]at hs;cases hs
   |false=>
    rw[hop]at hnone;simp only[Bool.false_eq_true,if_false]at hnone⊢
    exact Cq hn f (j+1) fr' (by omega) (fun j' hj'=>by
     by_cases he:j'=j
     ·rw[he];exact hop
     ·exact hc j' (by omega)) hf' ho hnone
theorem U7 (hn:Pw gs.length)(ho:∃i,i<gs.length∧dQ (gs.getD i [])=true)(h:(aH gs key hash).1=none):∃i s,(aH gs key hash).2.1=some (i,s)∧vo gs hash i s:=by
 obtain⟨i,hi,hop⟩:=ho;obtain⟨j,hj,hw⟩:=Yd hn (hash/128) i hi;exact Cq hn.pos gs.length 0 none (by omega) (fun _ h=>by omega) (fun _ h=>by omega) ⟨j,hj,by rw[hw];exact hop⟩ h
theorem yS (G:kW):(bR G).length+G.countP Slot.iY+G.countP Slot.isEmpty=G.length:=by
 induction G with
 |nil=>rfl
 |cons x t ih=>
  have e:(bR (x::t)).length=x.ents.length+(bR t).length:=by simp[bR]
  rw[e,List.countP_cons,List.countP_cons,List.length_cons]
  cases x with
  |empty=>simp[Slot.ents,Slot.iY,Slot.isEmpty];omega
  |qp=>simp[Slot.ents,Slot.iY,Slot.isEmpty];omega
  |full e=>simp[Slot.ents,Slot.iY,Slot.isEmpty];omega
theorem Hw (G:kW)(gs:Tab):aI (G::gs)=bR G++aI gs:=by simp[aI]
theorem zF (G:kW)(gs:Tab):fJ (G::gs)=G.countP Slot.iY+fJ gs:=by simp[fJ]
theorem Da:∀{gs:Tab},qZ gs→(aI gs).length+fJ gs<8*gs.length→∃i,i<gs.length∧dQ (gs.getD i [])=true
 | [],_,h=>by simp at h
 |G::gs,hw,h=>by
  cases ho:dQ G with
  |true=>exact⟨0,by simp,by simpa using ho⟩
  |false=>
   have h0:G.countP Slot.isEmpty=0:=by
    rw[List.countP_eq_zero];intro x hx he;have:dQ G=true:=List.any_eq_true.2 ⟨x,hx,he⟩;rw[ho]at this;cases this
   have h1:=yS G;have h2:=hw G (by simp);rw[Hw,zF,List.length_append,List.length_cons]at h;obtain⟨i,hi,hop⟩:=Da (gs:=gs) (fun x hx=>hw x (by simp[hx])) (by omega);exact⟨i+1,by simpa using hi,by simpa using hop⟩
theorem U8 (hw:qZ gs):(aI gs).length+fJ gs≤8*gs.length:=by
 induction gs with
 |nil=>simp[aI,fJ]
 |cons G t ih=>
  have h1:=yS G;have h2:=hw G (by simp);have h3:=ih (fun x hx=>hw x (by simp[hx]));rw[Hw,zF,List.length_append,List.length_cons];omega
theorem L9 {x:Slot}(hx:x.isEmpty=false)(h:dQ G=false):dQ (G.set s x)=false:=by
 unfold dQ at h⊢;rw[List.any_eq_false]at h⊢;intro y hy;rcases List.mem_or_eq_of_mem_set hy with hy|rfl
 ·exact h y hy
 ·simp[hx]
theorem xL {x:Slot}(hi:i<gs.length)(hx:x.isEmpty=true→dQ (gs.getD i [])=true)(h:dQ (gs.getD k [])=false):dQ ((putAt gs i s x).getD k [])=false:=by
 rw[Hq gs i s x k hi];by_cases he:i=k
 ·subst he;rw[if_pos rfl];refine L9 ?_ h
  cases hxe:x.isEmpty with
  |false=>rfl
  |true=>rw[hx hxe]at h;cases h
 ·rw[if_neg he];exact h
theorem aa5 (hT:zD gs)(hf:vo gs e.hash i s)(hk:∀x∈aI gs,x.key≠e.key):zD (putAt gs i s (.full e)):=by
 obtain⟨hi,hs,_,j,hj,hw,hc⟩:=hf;refine⟨hT.wide.put _ _ _,by rw[iH];exact hT.pow,fun a b a' b' x x' h1 h2 h3=> ?_,fun a b x h1=> ?_⟩
 ·rw[lH gs i s _ _ _ hi hs]at h1 h2
  by_cases c1:i=a∧s=b<;>by_cases c2:i=a'∧s=b'
  ·exact⟨by omega,by omega⟩
  ·rw[if_pos c1]at h1;rw[if_neg c2]at h2
   injection h1 with h1;subst h1
   exact absurd h3.symm (hk x' (rJ.2 ⟨_,_,h2⟩))
  ·rw[if_neg c1]at h1;rw[if_pos c2]at h2
   injection h2 with h2;subst h2
   exact absurd h3 (hk x (rJ.2 ⟨_,_,h1⟩))
  ·rw[if_neg c1]at h1;rw[if_neg c2]at h2;exact hT.uniq _ _ _ _ _ _ h1 h2 h3
 ·rw[lH gs i s _ _ _ hi hs]at h1;rw[iH]
  have hE:(Slot.full e).isEmpty=true→dQ (gs.getD i [])=true:=fun h=>by cases h
  by_cases c1:i=a∧s=b
  ·rw[if_pos c1]at h1
   injection h1 with h1;subst h1
   exact⟨j,hj,by rw[hw];exact c1.1,fun k hk=>xL hi hE (hc k hk)⟩
  ·rw[if_neg c1]at h1;obtain⟨j1,h4,h5,h6⟩:=hT.reach a b x h1;exact⟨j1,h4,h5,fun k hk=>xL hi hE (h6 k hk)⟩
theorem U9 (hT:zD gs)(hi:i<gs.length)(hs:s<(gs.getD i []).length){x:Slot}(hx:x.isEmpty=true→dQ (gs.getD i [])=true)(kL:∀e,x≠ .full e):zD (putAt gs i s x):=by
 refine⟨hT.wide.put _ _ _,by rw[iH];exact hT.pow,fun a b a' b' y y' h1 h2 h3=> ?_,fun a b y h1=> ?_⟩
 ·rw[lH gs i s _ _ _ hi hs]at h1 h2;by_cases c1:i=a∧s=b
  ·rw[if_pos c1]at h1;exact absurd h1 (kL y)
  ·by_cases c2:i=a'∧s=b'
   ·rw[if_pos c2]at h2;exact absurd h2 (kL y')
   ·rw[if_neg c1]at h1;rw[if_neg c2]at h2;exact hT.uniq _ _ _ _ _ _ h1 h2 h3
 ·rw[lH gs i s _ _ _ hi hs]at h1;rw[iH];by_cases c1:i=a∧s=b
  ·rw[if_pos c1]at h1;exact absurd h1 (kL y)
  ·rw[if_neg c1]at h1;obtain⟨j1,h4,h5,h6⟩:=hT.reach a b y h1;exact⟨j1,h4,h5,fun k hk=>xL hi hx (h6 k hk)⟩
theorem Qi (hT:zD gs){e':av}(he:aF gs i s= .full e)(hk:e'.key=e.key)(hh:e'.hash=e.hash):zD (putAt gs i s (.full e')):=by
 obtain⟨hi,hs⟩:=kK (gs:=gs) (i:=i) (s:=s) (by rw[he];exact fun h=>by cases h);refine⟨hT.wide.put _ _ _,by rw[iH];exact hT.pow,fun a b a' b' x x' h1 h2 h3=> ?_,fun a b x h1=> ?_⟩
 ·rw[lH gs i s _ _ _ hi hs]at h1 h2
  by_cases c1:i=a∧s=b<;>by_cases c2:i=a'∧s=b'
  ·exact⟨by omega,by omega⟩
  ·rw[if_pos c1]at h1;rw[if_neg c2]at h2
   injection h1 with h1;subst h1
   have:=hT.uniq _ _ _ _ _ _ he h2 (hk▸h3);omega
  ·rw[if_neg c1]at h1;rw[if_pos c2]at h2
   injection h2 with h2;subst h2
   have:=hT.uniq _ _ _ _ _ _ h1 he (by rw[h3,hk]);omega
  ·rw[if_neg c1]at h1;rw[if_neg c2]at h2;exact hT.uniq _ _ _ _ _ _ h1 h2 h3
 ·rw[lH gs i s _ _ _ hi hs]at h1;rw[iH]
  have hE:(Slot.full e').isEmpty=true→dQ (gs.getD i [])=true:=fun h=>by cases h
  by_cases c1:i=a∧s=b
  ·rw[if_pos c1]at h1
   injection h1 with h1;subst h1
   obtain⟨j1,h4,h5,h6⟩:=hT.reach i s e he;rw[hh];exact⟨j1,h4,by rw[h5];exact c1.1,fun k hk=>xL hi hE (h6 k hk)⟩
  ·rw[if_neg c1]at h1;obtain⟨j1,h4,h5,h6⟩:=hT.reach a b x h1;exact⟨j1,h4,h5,fun k hk=>xL hi hE (h6 k hk)⟩
def bare (n:Nat):Tab:=List.replicate n (List.replicate 8 .empty)
theorem zG (n i s:Nat):aF (bare n) i s= .empty:=by
 unfold aF bare;by_cases hi:i<n
 ·rw[getD_in (l:=List.replicate n (List.replicate 8 Slot.empty)) (by simpa using hi),List.getElem_replicate];by_cases hs:s<8
  ·rw[getD_in (by simpa using hs),List.getElem_replicate]
  ·rw[Bd (by simp;omega)]
 ·rw[Bd (l:=List.replicate n _) (by simp;omega)];rfl
theorem Nk {n:Nat}(h:Pw n):zD (bare n):=by
 refine⟨fun G hG=> ?_,by simpa[bare]using h,fun i s i' s' e e' h1=> ?_,fun i s e h1=> ?_⟩
 ·unfold bare at hG;rw[(List.mem_replicate.1 hG).2];simp
 ·rw[zG]at h1;cases h1
 ·rw[zG]at h1;cases h1
end Go.Proofs.YtbfpfgfgfjhpfaaGreatDoor.dP

/-! What a hash says, and in which order groups are looked at, by their contracts. -/
namespace Go.Proofs.YtbfpfgfgfjhpfaaGreatDoor
set_option maxHeartbeats 2000000
open Go Go.RowKit dP
variable {d h n : Nat}
theorem Yf (h:Nat)(w:World):Calls Tryz.prog 136 #[.int .u64 (h:Int)] w fun e w'=>e= .returned (.int .u64 ((h/128:Nat):Int))∧w=w':=by
 go_in;go_wp2;go_ret;exact⟨Ab (by omega),rfl⟩
theorem ab5 (h64:h<18446744073709551616):bits .and .u64 (h:Int) 127=((h % 128:Nat):Int):=by
 have:=bits_and_u64_nat h 127 h64 (by decide);rw[show(127:Nat)=2^7-1 by decide,Nat.and_two_pow_sub_one_eq_mod]at this;exact this
theorem Nl (h:Nat)(h64:h<18446744073709551616)(w:World):Calls Tryz.prog 186 #[.int .u64 (h:Int)] w fun e w'=>e= .returned (.int .u8 ((h % 128:Nat):Int))∧w=w':=by
 have HV:=qd (ab5 h64);clear h64;go_in;go_wp2;go_ret;exact⟨by rw[HV.out];refine iG ?_;omega,rfl⟩
theorem Bj (d:Nat)(hd:d≤16)(w:World):Calls Tryz.prog 174 #[.int .i64 (d:Int)] w fun e w'=>e= .returned (.bool true)∧w=w':=by
 have h':(d:Int)≤16:=by omega
 go_in;go_wp2;go_ret;exact⟨rfl,rfl⟩
def eF (h d:Nat):Nat:=h/2^(64-d)
def uO (h d:Nat):Nat:=h/2^(63-d) % 2
theorem Bl (h64:h<18446744073709551616)(hd:d≤16):eF h d<2^d:=by
 unfold eF;rw[Nat.div_lt_iff_lt_mul (Nat.two_pow_pos _),←Nat.pow_add,show d+(64-d)=64 by omega];exact h64
theorem SL (hd:d≤16):2^d≤65536:=by
 have:=Nat.pow_le_pow_right (n:=2) (by omega) hd;exact this
theorem Jt (h k:Nat):(h:Int)/2^k=((h/2^k:Nat):Int):=by simp
theorem Ki (h d:Nat)(h64:h<18446744073709551616)(hd:d≤16)(w:World):Calls Tryz.prog 133 #[.int .u64 (h:Int),.int .i64 (d:Int)] w fun e w'=>e= .returned (.tuple #[.int .i64 ((eF h d:Nat):Int),.nilIface])∧w=w':=by
 have HD:=qd (Bj d hd w);have hlt:=Bl h64 hd;have hp:=SL hd
 have h1:(0:Int)≤64-(d:Int):=by omega
 have h2:(64:Int)-(d:Int)≤64:=by omega
 have h3:((64:Int)-(d:Int)).toNat=64-d:=by omega
 have HV:=qd (show(h:Int)/2^(64-d)=((eF h d:Nat):Int)from Jt h (64-d))
 have hb:(h:Int)/2^(64-d)<65536:=by rw[HV.out];omega
 have hb0:0≤(h:Int)/2^(64-d):=by rw[HV.out];omega
 clear hlt hp h64;go_in;go_wp2_with fail;refine HD.out.mono ?_;rintro e w1 ⟨rfl,rfl⟩;go_wp2;rw[HV.out];go_ret2;exact⟨rfl,rfl⟩
theorem aa6 (x:Nat)(hx:x<18446744073709551616):bits .and .u64 (x:Int) 1=((x % 2:Nat):Int):=by
 have:=bits_and_u64_nat x 1 hx (by decide);rw[Nat.and_one_is_mod]at this;exact this
theorem Va (h d:Nat)(h64:h<18446744073709551616)(hd:d≤15)(w:World):Calls Tryz.prog 213 #[.int .u64 (h:Int),.int .i64 (d:Int)] w fun e w'=>e= .returned (.tuple #[.int .i64 ((uO h d:Nat):Int),.nilIface])∧w=w':=by
 have HD:=qd (Bj d (by omega) w)
 have h1:(0:Int)≤63-(d:Int):=by omega
 have h2:(63:Int)-(d:Int)≤64:=by omega
 have h3:((63:Int)-(d:Int)).toNat=63-d:=by omega
 have hlt:h/2^(63-d)<18446744073709551616:=Nat.lt_of_le_of_lt (Nat.div_le_self _ _) h64;have HV:=qd (show bits .and .u64 ((h:Int)/2^(63-d)) 1=((uO h d:Nat):Int)from by rw[Jt];exact aa6 _ hlt)
 have hb:bits .and .u64 ((h:Int)/2^(63-d)) 1<2:=by rw[HV.out];unfold uO;omega
 have hb0:0≤bits .and .u64 ((h:Int)/2^(63-d)) 1:=by rw[HV.out];omega
 clear hlt h64;go_in;go_wp2_with fail;refine HD.out.mono ?_;rintro e w1 ⟨rfl,rfl⟩;go_wp2;rw[HV.out];go_ret2;exact⟨rfl,rfl⟩
theorem Ju (p d:Nat)(hd:d≤16)(hp:p<2^d)(w:World):Calls Tryz.prog 128 #[.int .i64 (p:Int),.int .i64 (d:Int)] w fun e w'=>e= .returned (.bool true)∧w=w':=by
 have HD:=qd (Bj d hd w)
 have h1:(d:Int)≤64:=by omega
 have hpw:=SL hd
 have e:((2:Int)^d)=((2^d:Nat):Int):=by simp
 have h2:(p:Int)<2^d:=by rw[e];omega
 have h3:(2:Int)^d≤65536:=by rw[e];omega
 have h4:(0:Int)≤2^d:=by rw[e];omega
 clear hp hpw e;go_in;go_wp2_with fail;refine HD.out.mono ?_;rintro e w1 ⟨rfl,rfl⟩;go_wp2;go_ret;exact⟨rfl,rfl⟩
def nO (p d:Nat):Nat:=p*2^(64-d)
def lI (p d:Nat):Nat:=p*2^(64-d)+(2^(64-d)-1)
theorem Bn {p:Nat}(hd:d≤16)(hp:p<2^d):nO p d+2^(64-d)≤18446744073709551616:=by
 unfold nO;have:(p+1)*2^(64-d)≤2^d*2^(64-d):=Nat.mul_le_mul_right _ hp;rw[←Nat.pow_add,show d+(64-d)=64 by omega,Nat.add_mul,Nat.one_mul]at this;exact this
theorem Db (p d:Nat)(hd:d≤16)(hp:p<2^d)(w:World):Calls Tryz.prog 94 #[.int .i64 (p:Int),.int .i64 (d:Int)] w fun e w'=>e= .returned (.tuple #[.int .u64 ((nO p d:Nat):Int),.nilIface])∧w=w':=by
 have HD:=qd (Ju p d hd hp w)
 have h1:(0:Int)≤64-(d:Int):=by omega
 have h2:(64:Int)-(d:Int)≤64:=by omega
 have h3:((64:Int)-(d:Int)).toNat=64-d:=by omega
 have hlt:=Bn hd hp;have hpos:=Nat.two_pow_pos (64-d);have hpw:=SL hd
 have hp1:(p:Int)<65536:=by omega
 have HV:=qd (show IntKind.u64.wrap ((p:Int)*2^(64-d))=((nO p d:Nat):Int)from by
  rw[show(p:Int)*2^(64-d)=((nO p d:Nat):Int) by simp[nO]]
  exact xJ (by omega))
 clear hlt hpos hpw hp hd;go_in;go_wp2_with fail;refine HD.out.mono ?_;rintro e w1 ⟨rfl,rfl⟩;go_wp2;rw[HV.out];go_ret2;exact⟨rfl,rfl⟩
theorem ab6 {a k b:Nat}(hb:b<2^k):a*2^k|||b=a*2^k+b:=by
 have:=Nat.shiftLeft_add_eq_or_of_lt hb a;rw[Nat.shiftLeft_eq]at this;exact this.symm
theorem Yg (hd:d≤16):18446744073709551615/2^d=2^(64-d)-1:=by
 have H:∀d:Fin 17,18446744073709551615/2^d.val=2^(64-d.val)-1:=by decide+kernel
 exact H ⟨d,by omega⟩
theorem SN (p d:Nat)(hd:d≤16)(hp:p<2^d)(w:World):Calls Tryz.prog 121 #[.int .i64 (p:Int),.int .i64 (d:Int)] w fun e w'=>e= .returned (.tuple #[.int .u64 ((lI p d:Nat):Int),.nilIface])∧w=w':=by
 have HD:=qd (Db p d hd hp w)
 have h1:(d:Int)≤64:=by omega
 have hlt:=Bn hd hp;have hpos:=Nat.two_pow_pos (64-d)
 have HV:=qd (show bits .or .u64 ((nO p d:Nat):Int) (18446744073709551615/2^d)=((lI p d:Nat):Int)from by
  have e:(18446744073709551615:Int)/2^d=((2^(64-d)-1:Nat):Int):=by
   rw[←Yg hd];exact Jt 18446744073709551615 d
  rw[e,bits_or_u64_nat _ _ (by omega) (by omega)];unfold nO lI
  rw[ab6 (by omega)])
 clear hlt hpos hp hd;go_in;go_wp2_with fail;refine HD.out.mono ?_;rintro e w1 ⟨rfl,rfl⟩;go_wp2;rw[HV.out];go_ret2;exact⟨rfl,rfl⟩
theorem aa7 (h:Pw n):bits .and .i64 (n:Int) ((n:Int)-1)=0:=by
 unfold Pw at h
 rcases h with rfl|rfl|rfl|rfl|rfl|rfl|rfl<;>decide
theorem Qj (n:Nat)(h:Pw n)(w:World):Calls Tryz.prog 175 #[.int .i64 (n:Int)] w fun e w'=>e= .returned (.bool true)∧w=w':=by
 have h1:(1:Int)≤(n:Int):=by have:=h.pos;omega
 have h2:(n:Int)≤64:=by have:=h.le;omega
 have hV:=aa7 h;clear h;go_in;go_wp2;go_ret;exact⟨rfl,rfl⟩
theorem ab7 (h:Pw n):∃k,n=2^k:=by
 unfold Pw at h;rcases h with rfl|rfl|rfl|rfl|rfl|rfl|rfl
 ·exact⟨0,rfl⟩
 ·exact⟨1,rfl⟩
 ·exact⟨2,rfl⟩
 ·exact⟨3,rfl⟩
 ·exact⟨4,rfl⟩
 ·exact⟨5,rfl⟩
 ·exact⟨6,rfl⟩
theorem Yh (h64:h<18446744073709551616)(hn:Pw n):bits .and .u64 (h:Int) ((n:Int)-1)=((h % n:Nat):Int):=by
 obtain⟨k,rfl⟩:=ab7 hn;have hle:=hn.le;have hpos:=hn.pos;have:=bits_and_u64_nat h (2^k-1) h64 (by omega);rw[Nat.and_two_pow_sub_one_eq_mod]at this;rw[show((2^k:Nat):Int)-1=((2^k-1:Nat):Int) by omega];exact this
theorem SQ (h n:Nat)(h64:h<18446744073709551616)(hn:Pw n)(w:World):Calls Tryz.prog 181 #[.int .u64 (h:Int),.int .i64 (n:Int)] w fun e w'=>e= .returned (.int .i64 ((h % n:Nat):Int))∧w=w':=by
 have h1:(1:Int)≤(n:Int):=by have:=hn.pos;omega
 have h2:(n:Int)≤64:=by have:=hn.le;omega
 have hV:=Yh h64 hn
 have hm:((h % n:Nat):Int)<64:=by have:=Nat.mod_lt h hn.pos;omega
 clear hn h64;go_in;go_wp2;go_ret;exact⟨iG (by omega),rfl⟩
def bG (a b:av):Bool:=decide (a.hash<b.hash)||(a.hash==b.hash && decide (a.key<b.key))
theorem Kj (a:Nat)(w:World):Calls Tryz.prog 126 #[.int .u64 (a:Int)] w fun e w'=>e= .returned (.bool false)∧w=w':=by
 go_in;go_wp2;go_ret;exact⟨by simp,rfl⟩
def Nn (a b:Nat):Int:=if a<b then-1 else if b<a then 1 else 0
theorem aa8 (a b:Nat)(w:World):Calls Tryz.prog 90 #[.int .u64 (a:Int),.int .u64 (b:Int)] w fun e w'=>e= .returned (.int .i64 (Nn a b))∧w=w':=by
 have HA:=qd (Kj a w);have HB:=qd (Kj b w);have HC:=qd (show Nn a b=if a<b then-1 else if b<a then 1 else 0 from rfl)
 have K:(a:Int)<b∨(¬(a:Int)<b∧(b:Int)<a)∨(¬(a:Int)<b∧¬(b:Int)<a):=by omega
 rcases K with h|⟨h,h2⟩|⟨h,h2⟩
 ·go_in;go_wp2_with fail;refine HA.out.mono ?_;rintro e w1 ⟨rfl,rfl⟩;go_wp2_with fail;refine HB.out.mono ?_;rintro e w1 ⟨rfl,rfl⟩;go_wp2;go_ret;exact⟨iG (by rw[HC.out,if_pos (by omega)]),rfl⟩
 ·go_in;go_wp2_with fail;refine HA.out.mono ?_;rintro e w1 ⟨rfl,rfl⟩;go_wp2_with fail;refine HB.out.mono ?_;rintro e w1 ⟨rfl,rfl⟩;go_wp2;go_ret;exact⟨iG (by rw[HC.out,if_neg (by omega),if_pos (by omega)]),rfl⟩
 ·go_in;go_wp2_with fail;refine HA.out.mono ?_;rintro e w1 ⟨rfl,rfl⟩;go_wp2_with fail;refine HB.out.mono ?_;rintro e w1 ⟨rfl,rfl⟩;go_wp2;go_ret;exact⟨iG (by rw[HC.out,if_neg (by omega),if_neg (by omega)]),rfl⟩
def orI (a b:Int):Int:=if a=0 then b else a
theorem aa9 (g:Nat)(a b:Int)(w:World)(h0:w.cell? ⟨g,0,none⟩=some (.int .i64 a))(h1:w.cell? ⟨g,1,none⟩=some (.int .i64 b)):
  Calls Tryz.prog 211 #[.slice (some ⟨g,0,none⟩) 2 2] w fun e w'=>e= .returned (.int .i64 (orI a b))∧w=w':=by
 have HO:=qd (show orI a b=if a=0 then b else a from rfl);go_in;go_wp2;go_loop [5,8] (fun _ i=>∃k:Nat,k≤2∧i= .int .i64 k∧(0<k→a=0)∧(1<k→b=0)) (fun _ i=>2-(intOf i).toNat)
 case atStart=>exact⟨0,by omega,rfl,by omega,by omega⟩
 case round=>
  obtain⟨k,hk,rfl,ha,hb⟩:=hrel
  have K:k=0∨k=1∨k=2:=by omega
  rcases K with rfl|rfl|rfl
  ·clear ha hb
   cases hz:(a !=0)with
   |true=>
    go_wp2;go_ret;exact⟨iG (by rw[HO.out,if_neg (by simpa using hz)]),rfl⟩
   |false=>
    go_wp2;go_round
    case rel=>exact⟨1,by omega,rfl,fun _=>by simpa using hz,by omega⟩
    case measure=>simp[intOf]
  ·have HA:=qd (ha (by omega));clear ha hb
   cases hz:(b !=0)with
   |true=>
    go_wp2;go_ret;exact⟨iG (by rw[HO.out,if_pos HA.out]),rfl⟩
   |false=>
    go_wp2;go_round
    case rel=>exact⟨2,by omega,rfl,fun _=>HA.out,fun _=>by simpa using hz⟩
    case measure=>simp[intOf]
  ·have HA:=qd (ha (by omega));have HB:=qd (hb (by omega));clear ha hb;go_wp2;go_ret;exact⟨iG (by rw[HO.out,if_pos HA.out,HB.out]),rfl⟩
theorem Yi (a b:av):decide (orI (Nn a.hash b.hash) (Nn a.key b.key)<0)=bG a b:=by
 unfold orI Nn bG;rw[Bool.eq_iff_iff];simp only[decide_eq_true_eq,Bool.or_eq_true,Bool.and_eq_true,beq_iff_eq];by_cases h1:a.hash<b.hash
 ·simp[h1]
 ·by_cases h2:b.hash<a.hash
  ·simp[h1,h2];omega
  ·have:a.hash=b.hash:=by omega
   simp[this];by_cases h3:a.key<b.key
   ·simp[h3]
   ·by_cases h4:b.key<a.key
    ·simp[h3,h4]
    ·simp[h3,h4]
theorem Np {W:World}{o:Obj}{a:Addr}{v:Value}(h:W.cell? a=some v):(W.alloc o).cell? a=some v:=(World.cell?_alloc_lt W o a (World.block_lt_of_cell? W a h)).trans h
def aR (e:av):Value:= .agg #[.int .u64 (e.key:Int),.int .u64 (e.val:Int),.int .u64 (e.hash:Int)]
def aG (e:av):List Value:=[.int .u64 (e.key:Int),.int .u64 (e.val:Int),.int .u64 (e.hash:Int)]
theorem kG (a b:av)(w:World):Calls Tryz.prog 172 #[aR a,aR b] w fun e w'=>e= .returned (.bool (bG a b))∧Below w.heap.size w w':=by
 have HL:=qd (Yi a b);have HC:=qd (fun(x y:Nat) (W:World)=>aa8 x y W);unfold aR;have hA:=aj.alloc (aj.new w 76 #[.int .u64 (a.key:Int),.int .u64 (a.val:Int),.int .u64 (a.hash:Int)]) (.cells #[.int .u64 (b.key:Int),.int .u64 (b.val:Int),.int .u64 (b.hash:Int)] 76);have hB:=aj.new (w.alloc (.cells #[.int .u64 (a.key:Int),.int .u64 (a.val:Int),.int .u64 (a.hash:Int)] 76)) 76 #[.int .u64 (b.key:Int),.int .u64 (b.val:Int),.int .u64 (b.hash:Int)];have hBel:Below w.heap.size w ((w.alloc (.cells #[.int .u64 (a.key:Int),.int .u64 (a.val:Int),.int .u64 (a.hash:Int)] 76)).alloc (.cells #[.int .u64 (b.key:Int),.int .u64 (b.val:Int),.int .u64 (b.hash:Int)] 76)):=((Below.refl _ w).alloc (Nat.le_refl _) _).alloc (by simp) _;rw[World.size_alloc]at hB;obtain⟨W,hW⟩:∃W,W=(w.alloc (.cells #[.int .u64 (a.key:Int),.int .u64 (a.val:Int),.int .u64 (a.hash:Int)] 76)).alloc (.cells #[.int .u64 (b.key:Int),.int .u64 (b.val:Int),.int .u64 (b.hash:Int)] 76):=⟨_,rfl⟩;rw[←hW]at hA hB hBel;have a0:=hA.cell 0;have a2:=hA.cell 2;have b0:=hB.cell 0;have b2:=hB.cell 2;simp only[gl]at a0 a2 b0 b2;have HW:=qd hW;clear hW hA hB;go_in;go_upto_region 1 with fail;rw[←HW.out]
 go_region_held3 (fun w'=>(w'.cell? ⟨w.heap.size,0,none⟩=some (.int .u64 (a.key:Int))∧w'.cell? ⟨w.heap.size,2,none⟩=some (.int .u64 (a.hash:Int))∧w'.cell? ⟨w.heap.size+1,0,none⟩=some (.int .u64 (b.key:Int))∧w'.cell? ⟨w.heap.size+1,2,none⟩=some (.int .u64 (b.hash:Int)))∧Below w.heap.size w w')
  (first
   |(go_split_ands;refine⟨⟨?_, ?_, ?_, ?_⟩, ?_⟩<;>first|go_keep|assumption|exact Np (by assumption)|exact Below.drew (by assumption)|exact Below.alloc (by assumption) (Below.size (by assumption)) _)
   |(refine⟨⟨?_, ?_, ?_, ?_⟩, ?_⟩<;>first|go_keep|assumption|exact Np (by assumption)|exact Below.drew (by assumption)|exact Below.alloc (by assumption) (Below.size (by assumption)) _))
  (first
   |(go_at_call 90;refine(HC.out _ _ _).mono ?_;rintro e w3 ⟨rfl,rfl⟩)
   |(go_at_call 211;refine(aa9 _ _ _ _ ((aj.new _ _ _).cell 0) ((aj.new _ _ _).cell 1)).mono ?_;rintro e w3 ⟨rfl,rfl⟩))
 go_wp2;go_ret;exact⟨Bc HL.out,(hBel.alloc hBel.size _).drew⟩
end Go.Proofs.YtbfpfgfgfjhpfaaGreatDoor
