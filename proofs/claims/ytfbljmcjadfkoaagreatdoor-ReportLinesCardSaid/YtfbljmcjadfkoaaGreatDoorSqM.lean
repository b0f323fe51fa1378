/- Groups of slots and tables of groups: where a key is sought, and what a write does. No program in sight. -/
import Derived.Test.YtfbljmcjadfkoaaGreatDoorCoA
import Derived.Test.YtfbljmcjadfkoaaGreatDoorSq
import Derived.Deep.RegionHeld3
import Derived.Deep.Cut
import Derived.Deep.CutRange
import Derived.Deep.RegionWith
import Derived.BigRegion
import Derived.StillTailTactics
namespace Go.Proofs.YtfbljmcjadfkoaaGreatDoor.AmC
open Go
variable {α : Type} {i n s : Nat}
theorem getD_in {l:List α}{d:α}(hi:i<l.length):l.getD i d=l[i]:=by rw[List.getD_eq_getElem?_getD,List.getElem?_eq_getElem hi];rfl
theorem getD_out {l:List α}{d:α}(hi:l.length≤i):l.getD i d=d:=by rw[List.getD_eq_getElem?_getD,List.getElem?_eq_none hi];rfl
structure Ent where
 key:Nat
 val:Nat
 hash:Nat
deriving DecidableEq
inductive Slot where
 |empty
 |tomb
 |full (e:Ent)
deriving DecidableEq
abbrev Grp:=List Slot
def Slot.byte:Slot→Nat
 | .empty=>128
 | .tomb=>254
 | .full e=>e.hash % 128
def Slot.ents:Slot→List Ent
 | .full e=> [e]
 |_=> []
def Slot.isFull:Slot→Bool
 | .full _=>true
 |_=>false
def Slot.isTomb:Slot→Bool
 | .tomb=>true
 |_=>false
def Slot.isEmpty:Slot→Bool
 | .empty=>true
 |_=>false
def Slot.isKey (key hash:Nat):Slot→Bool
 | .full e=>e.hash % 128==hash % 128 && e.key==key
 |_=>false
theorem byte_lt (s:Slot):s.byte<256:=by cases s<;>simp[Slot.byte];omega
theorem bytes_grp (G:Grp):Bytes (G.map Slot.byte):=fun b hb=>by
 obtain⟨s,_,rfl⟩:=List.mem_map.1 hb;exact byte_lt s
def word (G:Grp):Nat:=w8 (G.map Slot.byte)
def openG (G:Grp):Bool:=G.any Slot.isEmpty
def findG (G:Grp)(key hash:Nat):Option Nat:=G.findIdx? (Slot.isKey key hash)
def freeG (G:Grp):Option Nat:=G.findIdx? fun s=> !s.isFull
def entsG (G:Grp):List Ent:=G.flatMap Slot.ents
abbrev Tab:=List Grp
def slotAt (gs:Tab)(i s:Nat):Slot:=(gs.getD i []).getD s .empty
def putAt (gs:Tab)(i s:Nat)(x:Slot):Tab:=gs.set i ((gs.getD i []).set s x)
def entsT (gs:Tab):List Ent:=gs.flatMap entsG
def tombsT (gs:Tab):Nat:=(gs.map fun G=>G.countP Slot.isTomb).sum
def Wide (gs:Tab):Prop:=∀G∈gs,G.length=8
theorem Wide.at_ {gs:Tab}(h:Wide gs)(hi:i<gs.length):(gs.getD i []).length=8:=by
 rw[List.getD_eq_getElem?_getD,List.getElem?_eq_getElem hi];exact h _ (List.getElem_mem hi)
theorem Wide.put {gs:Tab}(h:Wide gs)(i s:Nat)(x:Slot):Wide (putAt gs i s x):=by
 intro G hG;unfold putAt at hG;by_cases hi:i<gs.length
 ·rcases List.mem_or_eq_of_mem_set hG with hG|rfl
  ·exact h G hG
  ·rw[List.length_set];exact h.at_ hi
 ·rw[List.set_eq_of_length_le (by omega)]at hG;exact h G hG
theorem putAt_length (gs:Tab)(i s:Nat)(x:Slot):(putAt gs i s x).length=gs.length:=by simp[putAt]
theorem putAt_getD (gs:Tab)(i s:Nat)(x:Slot)(j:Nat)(hi:i<gs.length):(putAt gs i s x).getD j []=if i=j then(gs.getD i []).set s x else gs.getD j []:=by
 unfold putAt;rw[List.getD_eq_getElem?_getD,List.getElem?_set];by_cases h:i=j
 ·subst h;rw[if_pos rfl,if_pos rfl,if_pos hi];rfl
 ·rw[if_neg h,if_neg h,←List.getD_eq_getElem?_getD]
theorem slotAt_put (gs:Tab)(i s:Nat)(x:Slot)(j k:Nat)(hi:i<gs.length)(hs:s<(gs.getD i []).length):slotAt (putAt gs i s x) j k=if i=j∧s=k then x else slotAt gs j k:=by
 unfold slotAt;rw[putAt_getD gs i s x j hi];by_cases h:i=j
 ·subst h;rw[if_pos rfl,List.getD_eq_getElem?_getD,List.getElem?_set];by_cases hk:s=k
  ·subst hk;rw[if_pos rfl,if_pos hs,if_pos ⟨rfl,rfl⟩];rfl
  ·rw[if_neg hk,if_neg (by omega),←List.getD_eq_getElem?_getD]
 ·rw[if_neg h,if_neg (by omega)]
theorem slotAt_lt {gs:Tab}(h:slotAt gs i s≠ .empty):i<gs.length∧s<(gs.getD i []).length:=by
 constructor
 ·rcases Nat.lt_or_ge i gs.length with hlt|hge
  ·exact hlt
  ·exact absurd (by unfold slotAt;rw[getD_out (l:=gs) hge];rfl) h
 ·rcases Nat.lt_or_ge s (gs.getD i []).length with hlt|hge
  ·exact hlt
  ·exact absurd (by unfold slotAt;rw[getD_out hge]) h
theorem slotAt_get {gs:Tab}(hs:s<(gs.getD i []).length):(gs.getD i [])[s]?=some (slotAt gs i s):=by
 unfold slotAt;rw[getD_in hs,List.getElem?_eq_getElem hs]
theorem split_at {l:List α}{d:α}(hi:i<l.length):l=l.take i++l.getD i d::l.drop (i+1):=by
 have h:l.getD i d=l[i]:=by rw[List.getD_eq_getElem?_getD,List.getElem?_eq_getElem hi];rfl
 rw[h,←List.drop_eq_getElem_cons hi,List.take_append_drop]
theorem set_split {l:List α}(hi:i<l.length)(x:α):l.set i x=l.take i++x::l.drop (i+1):=by
 rw[List.set_eq_take_append_cons_drop,if_pos hi]
theorem entsT_split {gs:Tab}(hi:i<gs.length)(hs:s<(gs.getD i []).length):∃r1 r2,entsT gs=r1++((slotAt gs i s).ents++r2)∧∀x,entsT (putAt gs i s x)=r1++(x.ents++r2):=by
 refine⟨entsT (gs.take i)++entsG ((gs.getD i []).take s),entsG ((gs.getD i []).drop (s+1))++entsT (gs.drop (i+1)), ?_,fun x=> ?_⟩
 ·conv=>lhs;rw[split_at (d:=[]) hi,split_at (d:= .empty) hs]
  simp[entsT,entsG,slotAt]
 ·unfold putAt;rw[set_split hi,set_split hs];simp[entsT,entsG]
theorem entsT_put {gs:Tab}(hi:i<gs.length)(hs:s<(gs.getD i []).length)(x:Slot):((slotAt gs i s).ents++entsT (putAt gs i s x)).Perm (x.ents++entsT gs):=by
 obtain⟨r1,r2,h1,h2⟩:=entsT_split hi hs;rw[h1,h2];generalize(slotAt gs i s).ents=a
 have e1:(a++(r1++(x.ents++r2))).Perm (x.ents++(a++(r1++r2))):=by
  have:=(List.perm_append_comm (l₁:=r1) (l₂:=x.ents)).append_right r2;rw[List.append_assoc,List.append_assoc]at this;refine(this.append_left a).trans ?_;have h3:=(List.perm_append_comm (l₁:=a) (l₂:=x.ents)).append_right (r1++r2);rw[List.append_assoc,List.append_assoc]at h3;exact h3
 refine e1.trans (List.Perm.append_left _ ?_);have:=(List.perm_append_comm (l₁:=a) (l₂:=r1)).append_right r2;rw[List.append_assoc,List.append_assoc]at this;exact this
def Slot.tomb1 (x:Slot):Nat:=if x.isTomb then 1 else 0
theorem tombsT_put {gs:Tab}(hi:i<gs.length)(hs:s<(gs.getD i []).length)(x:Slot):(slotAt gs i s).tomb1+tombsT (putAt gs i s x)=x.tomb1+tombsT gs:=by
 have e1:tombsT gs=(tombsT (gs.take i)+(List.countP Slot.isTomb ((gs.getD i []).take s)+((slotAt gs i s).tomb1+List.countP Slot.isTomb ((gs.getD i []).drop (s+1)))))+tombsT (gs.drop (i+1)):=by
  conv=>lhs;rw[split_at (d:=[]) hi,split_at (d:= .empty) hs]
  simp[tombsT,slotAt,Slot.tomb1,List.countP_cons]
  split<;>omega
 have e2:tombsT (putAt gs i s x)=(tombsT (gs.take i)+(List.countP Slot.isTomb ((gs.getD i []).take s)+(x.tomb1+List.countP Slot.isTomb ((gs.getD i []).drop (s+1)))))+tombsT (gs.drop (i+1)):=by
  unfold putAt;rw[set_split hi,set_split hs];simp[tombsT,Slot.tomb1,List.countP_cons]
  split<;>omega
 omega
theorem mem_entsT {gs:Tab}{e:Ent}:e∈entsT gs↔∃i s,slotAt gs i s= .full e:=by
 unfold entsT entsG;simp only[List.mem_flatMap];constructor
 ·rintro⟨G,hG,x,hx,he⟩;obtain⟨i,hi,rfl⟩:=List.mem_iff_getElem.1 hG;obtain⟨s,hs,rfl⟩:=List.mem_iff_getElem.1 hx;refine⟨i,s, ?_⟩
  have h1:gs.getD i []=gs[i]:=by rw[List.getD_eq_getElem?_getD,List.getElem?_eq_getElem hi];rfl
  have h2:slotAt gs i s=gs[i][s]:=by unfold slotAt;rw[h1,List.getD_eq_getElem?_getD,List.getElem?_eq_getElem hs];rfl
  rw[h2];revert he
  cases gs[i][s]<;>simp[Slot.ents]
  exact fun h=>h.symm
 ·rintro⟨i,s,h⟩;obtain⟨hi,hs⟩:=slotAt_lt (gs:=gs) (i:=i) (s:=s) (by rw[h];exact fun h=>by cases h)
  have h1:gs.getD i []=gs[i]:=by rw[List.getD_eq_getElem?_getD,List.getElem?_eq_getElem hi];rfl
  refine⟨gs.getD i [],by rw[h1];exact List.getElem_mem hi,slotAt gs i s, ?_,by rw[h];simp[Slot.ents]⟩;exact List.mem_of_getElem? (slotAt_get hs)
def tri (j:Nat):Nat:=j*(j+1)/2
def walkAt (h n j:Nat):Nat:=(h+tri j) % n
def walk (h n:Nat):List Nat:=(List.range n).map (walkAt h n)
def Pw (n:Nat):Prop:=n=1∨n=2∨n=4∨n=8∨n=16∨n=32∨n=64
theorem tri_all (h:Pw n):∀d,d<n→∃j,j<n∧tri j % n=d:=by
 have H:∀n∈[1,2,4,8,16,32,64],∀d:Fin n,(List.range n).any (fun j=>tri j % n==d.val)=true:=by decide+kernel
 intro d hd;have:=H n (by unfold Pw at h;simp;omega) ⟨d,hd⟩;rw[List.any_eq_true]at this;obtain⟨j,hj,he⟩:=this;exact⟨j,List.mem_range.1 hj,by simpa using he⟩
theorem Pw.pos (h:Pw n):0<n:=by unfold Pw at h;omega
theorem Pw.le (h:Pw n):n≤64:=by unfold Pw at h;omega
theorem walk_all (hn:Pw n)(h i:Nat)(hi:i<n):∃j,j<n∧walkAt h n j=i:=by
 obtain⟨j,hj,he⟩:=tri_all hn ((i+n-h % n) % n) (Nat.mod_lt _ hn.pos);refine⟨j,hj, ?_⟩;unfold walkAt;have hm:=Nat.mod_lt h hn.pos;rw[Nat.add_mod,he,Nat.add_mod_mod,show h % n+(i+n-h % n)=i+n by omega,Nat.add_mod_right,Nat.mod_eq_of_lt hi]
def nextFree (fr:Option (Nat×Nat))(i:Nat)(G:Grp):Option (Nat×Nat):=match fr with|some x=>some x|none=>(freeG G).map fun s=>(i,s)
def seekFrom (gs:Tab)(key hash:Nat):Nat→Nat→Option (Nat×Nat)→Option (Nat×Nat)×Option (Nat×Nat)×Nat
 |0,_,fr=>(none,fr,0)
 |f+1,j,fr=>
  let i:=walkAt (hash/128) gs.length j
  let G:=gs.getD i []
  let fr':=nextFree fr i G
  match findG G key hash with
  |some s=>(some (i,s),fr',1)
  |none=>if openG G then(none,fr',1)else
   let r:=seekFrom gs key hash f (j+1) fr'
   (r.1,r.2.1,r.2.2+1)
def seek (gs:Tab)(key hash:Nat):Option (Nat×Nat)×Option (Nat×Nat)×Nat:=seekFrom gs key hash gs.length 0 none
end Go.Proofs.YtfbljmcjadfkoaaGreatDoor.AmC

/-! A table's laws: who is there is found where it stands; a free place is found; what writes leave. No program in sight. -/
namespace Go.Proofs.YtfbljmcjadfkoaaGreatDoor.AmC
open Go
variable {α : Type} {hash i j k key s : Nat} {gs : Tab} {e : Ent} {G : Grp}
theorem idx_some {p:α→Bool}{l:List α}(h:l.findIdx? p=some k):∃x,l[k]?=some x∧p x=true∧∀j y,j<k→l[j]?=some y→p y=false:=by
 obtain⟨hk,hp,hn⟩:=List.findIdx?_eq_some_iff_getElem.1 h;refine⟨l[k],List.getElem?_eq_getElem hk,hp,fun j y hj hy=> ?_⟩;obtain⟨hj2,rfl⟩:=List.getElem?_eq_some_iff.1 hy;simpa using hn j hj
theorem idx_none {p:α→Bool}{l:List α}(h:l.findIdx? p=none):∀x∈l,p x=false:=by
 intro x hx;have:=List.findIdx?_eq_none_iff.1 h x hx;simpa using this
structure TInv (gs:Tab):Prop where
 wide:Wide gs
 pow:Pw gs.length
 uniq:∀i s i' s' e e',slotAt gs i s= .full e→slotAt gs i' s'= .full e'→e.key=e'.key→i=i'∧s=s'
 reach:∀i s e,slotAt gs i s= .full e→∃j,j<gs.length∧walkAt (e.hash/128) gs.length j=i∧∀j',j'<j→openG (gs.getD (walkAt (e.hash/128) gs.length j') [])=false
theorem full_of {x:Slot}(h:x.isKey key hash=true):∃e,x= .full e∧e.key=key∧e.hash % 128=hash % 128:=by
 cases x with
 |full e=>simp[Slot.isKey]at h;exact⟨e,rfl,h.2,h.1⟩
 |_=>simp[Slot.isKey]at h
theorem findG_some (h:findG (gs.getD i []) key hash=some s):∃e,slotAt gs i s= .full e∧e.key=key∧e.hash % 128=hash % 128:=by
 obtain⟨x,h1,h2,_⟩:=idx_some h;obtain⟨e,rfl,h3,h4⟩:=full_of h2;obtain⟨hs,hx⟩:=List.getElem?_eq_some_iff.1 h1;refine⟨e, ?_,h3,h4⟩;unfold slotAt;rw[getD_in hs,hx]
theorem slotAt_of {x:Slot}(h:(gs.getD i [])[s]?=some x):slotAt gs i s=x:=by
 obtain⟨hs,hx⟩:=List.getElem?_eq_some_iff.1 h;unfold slotAt;rw[getD_in hs,hx]
theorem seekFrom_sound (gs:Tab)(key hash:Nat):∀f j fr i s,(seekFrom gs key hash f j fr).1=some (i,s)→∃e,slotAt gs i s= .full e∧e.key=key∧e.hash % 128=hash % 128
 |0,_,_,_,_,h=>by simp[seekFrom]at h
 |f+1,j,fr,i,s,h=>by
  unfold seekFrom at h;simp only at h;split at h
  ·next s' hs'=>
   injection h with h
   injection h with h1 h2
   subst h1 h2;exact findG_some hs'
  ·split at h
   ·cases h
   ·exact seekFrom_sound gs key hash f (j+1) _ i s h
theorem seek_sound (h:(seek gs key hash).1=some (i,s)):∃e,slotAt gs i s= .full e∧e.key=key∧e.hash % 128=hash % 128:=seekFrom_sound gs key hash _ _ _ i s h
theorem seek_none (h:∀e∈entsT gs,e.key≠key):(seek gs key hash).1=none:=by
 cases hs:(seek gs key hash).1 with
 |none=>rfl
 |some x=>
  obtain⟨e,h1,h2,_⟩:=seek_sound (i:=x.1) (s:=x.2) hs;exact absurd h2 (h e (mem_entsT.2 ⟨_,_,h1⟩))
def FreeAt (gs:Tab)(hash i s:Nat):Prop:=
 i<gs.length∧s<(gs.getD i []).length∧(slotAt gs i s).isFull=false∧∃j,j<gs.length∧walkAt (hash/128) gs.length j=i∧∀j',j'<j→openG (gs.getD (walkAt (hash/128) gs.length j') [])=false
theorem open_free (h:openG G=true):∃s,freeG G=some s:=by
 unfold openG at h;obtain⟨x,hx,he⟩:=List.any_eq_true.1 h
 cases hf:freeG G with
 |some s=>exact⟨s,rfl⟩
 |none=>
  have:=idx_none hf x hx
  cases x<;>simp_all[Slot.isEmpty,Slot.isFull]
theorem free_at (hn:0<gs.length)(hj:j<gs.length)(hs:freeG (gs.getD (walkAt (hash/128) gs.length j) [])=some s)(hc:∀j',j'<j→openG (gs.getD (walkAt (hash/128) gs.length j') [])=false):
  FreeAt gs hash (walkAt (hash/128) gs.length j) s:=by
 obtain⟨x,h1,h2,_⟩:=idx_some hs;obtain⟨hlt,_⟩:=List.getElem?_eq_some_iff.1 h1;refine⟨Nat.mod_lt _ hn,hlt, ?_,j,hj,rfl,hc⟩;rw[slotAt_of h1];simpa using h2
theorem seekFrom_free (hn:0<gs.length):∀f j fr,j+f=gs.length→
  (∀j',j'<j→openG (gs.getD (walkAt (hash/128) gs.length j') [])=false)→
  (match fr with|some x=>FreeAt gs hash x.1 x.2|none=>∀j',j'<j→freeG (gs.getD (walkAt (hash/128) gs.length j') [])=none)→
  (∃j,j<gs.length∧openG (gs.getD (walkAt (hash/128) gs.length j) [])=true)→
  (seekFrom gs key hash f j fr).1=none→∃i s,(seekFrom gs key hash f j fr).2.1=some (i,s)∧FreeAt gs hash i s
 |0,j,fr,hj,hc,hf,ho,_=>by
  cases fr with
  |some x=>exact⟨x.1,x.2,rfl,hf⟩
  |none=>
   obtain⟨j',h1,h2⟩:=ho;have:=hc j' (by omega);rw[this]at h2;cases h2
 |f+1,j,fr,hj,hc,hf,ho,hnone=>by
  have hfr:∀fr',fr'=nextFree fr (walkAt (hash/128) gs.length j) (gs.getD (walkAt (hash/128) gs.length j) [])→
    (match fr' with|some x=>FreeAt gs hash x.1 x.2|none=>∀j',j'<j+1→freeG (gs.getD (walkAt (hash/128) gs.length j') [])=none):=by
   intro fr' hfr'
   cases fr with
   |some x=>simp only[nextFree]at hfr';subst hfr';exact hf
   |none=>
    simp only[nextFree]at hfr' hf
    cases hg:freeG (gs.getD (walkAt (hash/128) gs.length j) [])with
    |some s=>
     rw[hg]at hfr';subst hfr';exact free_at hn (by omega) hg hc
    |none=>
     rw[hg]at hfr';subst hfr';intro j' hj';by_cases he:j'=j
     ·rw[he];exact hg
     ·exact hf j' (by omega)
  unfold seekFrom at hnone⊢;simp only at hnone⊢;generalize hfd:nextFree fr (walkAt (hash/128) gs.length j) (gs.getD (walkAt (hash/128) gs.length j) [])=fr' at hnone⊢;have hf':=hfr fr' hfd.symm
  cases hfind:findG (gs.getD (walkAt (hash/128) gs.length j) []) key hash with
  |some s=>rw[hfind]at hnone;cases hnone
  |none=>
   rw[hfind]at hnone;simp only at hnone⊢
   cases hop:openG (gs.getD (walkAt (hash/128) gs.length j) [])with
   |true=>
    simp only[if_true]
    cases fr' with
    |some x=>exact⟨x.1,x.2,rfl,hf'⟩
    |none=>
     obtain⟨s,hs⟩:=open_free hop;rw[hf' j (by omega)]at hs;cases hs
   |false=>
    rw[hop]at hnone;simp only[Bool.false_eq_true,if_false]at hnone⊢
    exact seekFrom_free hn f (j+1) fr' (by omega) (fun j' hj'=>by
     by_cases he:j'=j
     ·rw[he];exact hop
     ·exact hc j' (by omega)) hf' ho hnone
theorem seek_free (hn:Pw gs.length)(ho:∃i,i<gs.length∧openG (gs.getD i [])=true)(h:(seek gs key hash).1=none):∃i s,(seek gs key hash).2.1=some (i,s)∧FreeAt gs hash i s:=by
 obtain⟨i,hi,hop⟩:=ho;obtain⟨j,hj,hw⟩:=walk_all hn (hash/128) i hi;exact seekFrom_free hn.pos gs.length 0 none (by omega) (fun _ h=>by omega) (fun _ h=>by omega) ⟨j,hj,by rw[hw];exact hop⟩ h
theorem grp_count (G:Grp):(entsG G).length+G.countP Slot.isTomb+G.countP Slot.isEmpty=G.length:=by
 induction G with
 |nil=>rfl
 |cons x t ih=>
  have e:(entsG (x::t)).length=x.ents.length+(entsG t).length:=by simp[entsG]
  rw[e,List.countP_cons,List.countP_cons,List.length_cons]
  cases x with
  |empty=>simp[Slot.ents,Slot.isTomb,Slot.isEmpty];omega
  |tomb=>simp[Slot.ents,Slot.isTomb,Slot.isEmpty];omega
  |full e=>simp[Slot.ents,Slot.isTomb,Slot.isEmpty];omega
theorem entsT_cons (G:Grp)(gs:Tab):entsT (G::gs)=entsG G++entsT gs:=by simp[entsT]
theorem tombsT_cons (G:Grp)(gs:Tab):tombsT (G::gs)=G.countP Slot.isTomb+tombsT gs:=by simp[tombsT]
theorem open_of_room:∀{gs:Tab},Wide gs→(entsT gs).length+tombsT gs<8*gs.length→∃i,i<gs.length∧openG (gs.getD i [])=true
 | [],_,h=>by simp at h
 |G::gs,hw,h=>by
  cases ho:openG G with
  |true=>exact⟨0,by simp,by simpa using ho⟩
  |false=>
   have h0:G.countP Slot.isEmpty=0:=by
    rw[List.countP_eq_zero];intro x hx he;have:openG G=true:=List.any_eq_true.2 ⟨x,hx,he⟩;rw[ho]at this;cases this
   have h1:=grp_count G;have h2:=hw G (by simp);rw[entsT_cons,tombsT_cons,List.length_append,List.length_cons]at h;obtain⟨i,hi,hop⟩:=open_of_room (gs:=gs) (fun x hx=>hw x (by simp[hx])) (by omega);exact⟨i+1,by simpa using hi,by simpa using hop⟩
theorem room_most (hw:Wide gs):(entsT gs).length+tombsT gs≤8*gs.length:=by
 induction gs with
 |nil=>simp[entsT,tombsT]
 |cons G t ih=>
  have h1:=grp_count G;have h2:=hw G (by simp);have h3:=ih (fun x hx=>hw x (by simp[hx]));rw[entsT_cons,tombsT_cons,List.length_append,List.length_cons];omega
theorem open_set_full {x:Slot}(hx:x.isEmpty=false)(h:openG G=false):openG (G.set s x)=false:=by
 unfold openG at h⊢;rw[List.any_eq_false]at h⊢;intro y hy;rcases List.mem_or_eq_of_mem_set hy with hy|rfl
 ·exact h y hy
 ·simp[hx]
theorem open_put {x:Slot}(hi:i<gs.length)(hx:x.isEmpty=true→openG (gs.getD i [])=true)(h:openG (gs.getD k [])=false):openG ((putAt gs i s x).getD k [])=false:=by
 rw[putAt_getD gs i s x k hi];by_cases he:i=k
 ·subst he;rw[if_pos rfl];refine open_set_full ?_ h
  cases hxe:x.isEmpty with
  |false=>rfl
  |true=>rw[hx hxe]at h;cases h
 ·rw[if_neg he];exact h
theorem inv_put (hT:TInv gs)(hf:FreeAt gs e.hash i s)(hk:∀x∈entsT gs,x.key≠e.key):TInv (putAt gs i s (.full e)):=by
 obtain⟨hi,hs,_,j,hj,hw,hc⟩:=hf;refine⟨hT.wide.put _ _ _,by rw[putAt_length];exact hT.pow,fun a b a' b' x x' h1 h2 h3=> ?_,fun a b x h1=> ?_⟩
 ·rw[slotAt_put gs i s _ _ _ hi hs]at h1 h2
  by_cases c1:i=a∧s=b<;>by_cases c2:i=a'∧s=b'
  ·exact⟨by omega,by omega⟩
  ·rw[if_pos c1]at h1;rw[if_neg c2]at h2
   injection h1 with h1;subst h1
   exact absurd h3.symm (hk x' (mem_entsT.2 ⟨_,_,h2⟩))
  ·rw[if_neg c1]at h1;rw[if_pos c2]at h2
   injection h2 with h2;subst h2
   exact absurd h3 (hk x (mem_entsT.2 ⟨_,_,h1⟩))
  ·rw[if_neg c1]at h1;rw[if_neg c2]at h2;exact hT.uniq _ _ _ _ _ _ h1 h2 h3
 ·rw[slotAt_put gs i s _ _ _ hi hs]at h1;rw[putAt_length]
  have hE:(Slot.full e).isEmpty=true→openG (gs.getD i [])=true:=fun h=>by cases h
  by_cases c1:i=a∧s=b
  ·rw[if_pos c1]at h1
   injection h1 with h1;subst h1
   exact⟨j,hj,by rw[hw];exact c1.1,fun k hk=>open_put hi hE (hc k hk)⟩
  ·rw[if_neg c1]at h1;obtain⟨j1,h4,h5,h6⟩:=hT.reach a b x h1;exact⟨j1,h4,h5,fun k hk=>open_put hi hE (h6 k hk)⟩
theorem inv_erase (hT:TInv gs)(hi:i<gs.length)(hs:s<(gs.getD i []).length){x:Slot}(hx:x.isEmpty=true→openG (gs.getD i [])=true)(hxf:∀e,x≠ .full e):TInv (putAt gs i s x):=by
 refine⟨hT.wide.put _ _ _,by rw[putAt_length];exact hT.pow,fun a b a' b' y y' h1 h2 h3=> ?_,fun a b y h1=> ?_⟩
 ·rw[slotAt_put gs i s _ _ _ hi hs]at h1 h2;by_cases c1:i=a∧s=b
  ·rw[if_pos c1]at h1;exact absurd h1 (hxf y)
  ·by_cases c2:i=a'∧s=b'
   ·rw[if_pos c2]at h2;exact absurd h2 (hxf y')
   ·rw[if_neg c1]at h1;rw[if_neg c2]at h2;exact hT.uniq _ _ _ _ _ _ h1 h2 h3
 ·rw[slotAt_put gs i s _ _ _ hi hs]at h1;rw[putAt_length];by_cases c1:i=a∧s=b
  ·rw[if_pos c1]at h1;exact absurd h1 (hxf y)
  ·rw[if_neg c1]at h1;obtain⟨j1,h4,h5,h6⟩:=hT.reach a b y h1;exact⟨j1,h4,h5,fun k hk=>open_put hi hx (h6 k hk)⟩
def bare (n:Nat):Tab:=List.replicate n (List.replicate 8 .empty)
theorem slotAt_bare (n i s:Nat):slotAt (bare n) i s= .empty:=by
 unfold slotAt bare;by_cases hi:i<n
 ·rw[getD_in (l:=List.replicate n (List.replicate 8 Slot.empty)) (by simpa using hi),List.getElem_replicate];by_cases hs:s<8
  ·rw[getD_in (by simpa using hs),List.getElem_replicate]
  ·rw[getD_out (by simp;omega)]
 ·rw[getD_out (l:=List.replicate n _) (by simp;omega)];rfl
theorem inv_bare {n:Nat}(h:Pw n):TInv (bare n):=by
 refine⟨fun G hG=> ?_,by simpa[bare]using h,fun i s i' s' e e' h1=> ?_,fun i s e h1=> ?_⟩
 ·unfold bare at hG;rw[(List.mem_replicate.1 hG).2];simp
 ·rw[slotAt_bare]at h1;cases h1
 ·rw[slotAt_bare]at h1;cases h1
end Go.Proofs.YtfbljmcjadfkoaaGreatDoor.AmC

/-! What a hash says, and in which order groups are looked at, by their contracts. -/
namespace Go.Proofs.YtfbljmcjadfkoaaGreatDoor
open Go.RowKit AmC
variable {d h n : Nat}
set_option maxHeartbeats 400000 in
theorem split_H1 (h:Nat)(w:World):Calls Tryz.prog 202 #[.int .u64 (h:Int)] w fun e w'=>e= .returned (.int .u64 ((h/128:Nat):Int))∧w=w':=by
 go_in;go_wp2;go_ret;exact⟨ret_u64 (by omega),rfl⟩
theorem h2_val (h64:h<18446744073709551616):bits .and .u64 (h:Int) 127=((h % 128:Nat):Int):=by
 have:=bits_and_u64_nat h 127 h64 (by decide);rw[show(127:Nat)=2^7-1 by decide,Nat.and_two_pow_sub_one_eq_mod]at this;exact this
set_option maxHeartbeats 400000 in
theorem split_H2 (h:Nat)(h64:h<18446744073709551616)(w:World):Calls Tryz.prog 249 #[.int .u64 (h:Int)] w fun e w'=>e= .returned (.int .u8 ((h % 128:Nat):Int))∧w=w':=by
 have HV:=qd (h2_val h64);clear h64;go_in;go_wp2;go_ret;exact⟨by rw[HV.out];refine ret_int ?_;omega,rfl⟩
set_option maxHeartbeats 400000 in
theorem split_deep (d:Nat)(hd:d≤16)(w:World):Calls Tryz.prog 193 #[.int .i64 (d:Int)] w fun e w'=>e= .returned (.bool true)∧w=w':=by
 have h':(d:Int)≤16:=by omega
 go_in;go_wp2;go_ret;exact⟨rfl,rfl⟩
def topOf (h d:Nat):Nat:=h/2^(64-d)
def bitOf (h d:Nat):Nat:=h/2^(63-d) % 2
theorem topOf_lt (h64:h<18446744073709551616)(hd:d≤16):topOf h d<2^d:=by
 unfold topOf;rw[Nat.div_lt_iff_lt_mul (Nat.two_pow_pos _),←Nat.pow_add,show d+(64-d)=64 by omega];exact h64
theorem pow16 (hd:d≤16):2^d≤65536:=by
 have:=Nat.pow_le_pow_right (n:=2) (by omega) hd;exact this
theorem shr_val (h k:Nat):(h:Int)/2^k=((h/2^k:Nat):Int):=by simp
theorem bit_and (x:Nat)(hx:x<18446744073709551616):bits .and .u64 (x:Int) 1=((x % 2:Nat):Int):=by
 have:=bits_and_u64_nat x 1 hx (by decide);rw[Nat.and_one_is_mod]at this;exact this
set_option maxHeartbeats 400000 in
theorem split_Bit (h d:Nat)(h64:h<18446744073709551616)(hd:d≤15)(w:World):Calls Tryz.prog 274 #[.int .u64 (h:Int),.int .i64 (d:Int)] w fun e w'=>e= .returned (.tuple #[.int .i64 ((bitOf h d:Nat):Int),.nilIface])∧w=w':=by
 have HD:=qd (split_deep d (by omega) w)
 have h1:(0:Int)≤63-(d:Int):=by omega
 have h2:(63:Int)-(d:Int)≤64:=by omega
 have h3:((63:Int)-(d:Int)).toNat=63-d:=by omega
 have hlt:h/2^(63-d)<18446744073709551616:=Nat.lt_of_le_of_lt (Nat.div_le_self _ _) h64;have HV:=qd (show bits .and .u64 ((h:Int)/2^(63-d)) 1=((bitOf h d:Nat):Int)from by rw[shr_val];exact bit_and _ hlt)
 have hb:bits .and .u64 ((h:Int)/2^(63-d)) 1<2:=by rw[HV.out];unfold bitOf;omega
 have hb0:0≤bits .and .u64 ((h:Int)/2^(63-d)) 1:=by rw[HV.out];omega
 clear hlt h64;go_in;go_wp2_with fail;refine HD.out.mono ?_;rintro e w1 ⟨rfl,rfl⟩;go_wp2;rw[HV.out];go_ret2;exact⟨rfl,rfl⟩
set_option maxHeartbeats 400000 in
theorem split_prefixed (p d:Nat)(hd:d≤16)(hp:p<2^d)(w:World):Calls Tryz.prog 155 #[.int .i64 (p:Int),.int .i64 (d:Int)] w fun e w'=>e= .returned (.bool true)∧w=w':=by
 have HD:=qd (split_deep d hd w)
 have h1:(d:Int)≤64:=by omega
 have hpw:=pow16 hd
 have e:((2:Int)^d)=((2^d:Nat):Int):=by simp
 have h2:(p:Int)<2^d:=by rw[e];omega
 have h3:(2:Int)^d≤65536:=by rw[e];omega
 have h4:(0:Int)≤2^d:=by rw[e];omega
 clear hp hpw e;go_in;go_wp2_with fail;refine HD.out.mono ?_;rintro e w1 ⟨rfl,rfl⟩;go_wp2;go_ret;exact⟨rfl,rfl⟩
def lowOf (p d:Nat):Nat:=p*2^(64-d)
def highOf (p d:Nat):Nat:=p*2^(64-d)+(2^(64-d)-1)
theorem lowOf_lt {p:Nat}(hd:d≤16)(hp:p<2^d):lowOf p d+2^(64-d)≤18446744073709551616:=by
 unfold lowOf;have:(p+1)*2^(64-d)≤2^d*2^(64-d):=Nat.mul_le_mul_right _ hp;rw[←Nat.pow_add,show d+(64-d)=64 by omega,Nat.add_mul,Nat.one_mul]at this;exact this
set_option maxHeartbeats 400000 in
theorem split_Low (p d:Nat)(hd:d≤16)(hp:p<2^d)(w:World):Calls Tryz.prog 120 #[.int .i64 (p:Int),.int .i64 (d:Int)] w fun e w'=>e= .returned (.tuple #[.int .u64 ((lowOf p d:Nat):Int),.nilIface])∧w=w':=by
 have HD:=qd (split_prefixed p d hd hp w)
 have h1:(0:Int)≤64-(d:Int):=by omega
 have h2:(64:Int)-(d:Int)≤64:=by omega
 have h3:((64:Int)-(d:Int)).toNat=64-d:=by omega
 have hlt:=lowOf_lt hd hp;have hpos:=Nat.two_pow_pos (64-d);have hpw:=pow16 hd
 have hp1:(p:Int)<65536:=by omega
 have HV:=qd (show IntKind.u64.wrap ((p:Int)*2^(64-d))=((lowOf p d:Nat):Int)from by
  rw[show(p:Int)*2^(64-d)=((lowOf p d:Nat):Int) by simp[lowOf]]
  exact wrap_nat (by omega))
 clear hlt hpos hpw hp hd;go_in;go_wp2_with fail;refine HD.out.mono ?_;rintro e w1 ⟨rfl,rfl⟩;go_wp2;rw[HV.out];go_ret2;exact⟨rfl,rfl⟩
theorem pow_and (h:Pw n):bits .and .i64 (n:Int) ((n:Int)-1)=0:=by
 unfold Pw at h
 rcases h with rfl|rfl|rfl|rfl|rfl|rfl|rfl<;>decide
set_option maxHeartbeats 400000 in
theorem probe_Right (n:Nat)(h:Pw n)(w:World):Calls Tryz.prog 194 #[.int .i64 (n:Int)] w fun e w'=>e= .returned (.bool true)∧w=w':=by
 have h1:(1:Int)≤(n:Int):=by have:=h.pos;omega
 have h2:(n:Int)≤64:=by have:=h.le;omega
 have hV:=pow_and h;clear h;go_in;go_wp2;go_ret;exact⟨rfl,rfl⟩
theorem pw_two (h:Pw n):∃k,n=2^k:=by
 unfold Pw at h;rcases h with rfl|rfl|rfl|rfl|rfl|rfl|rfl
 ·exact⟨0,rfl⟩
 ·exact⟨1,rfl⟩
 ·exact⟨2,rfl⟩
 ·exact⟨3,rfl⟩
 ·exact⟨4,rfl⟩
 ·exact⟨5,rfl⟩
 ·exact⟨6,rfl⟩
theorem home_val (h64:h<18446744073709551616)(hn:Pw n):bits .and .u64 (h:Int) ((n:Int)-1)=((h % n:Nat):Int):=by
 obtain⟨k,rfl⟩:=pw_two hn;have hle:=hn.le;have hpos:=hn.pos;have:=bits_and_u64_nat h (2^k-1) h64 (by omega);rw[Nat.and_two_pow_sub_one_eq_mod]at this;rw[show((2^k:Nat):Int)-1=((2^k-1:Nat):Int) by omega];exact this
set_option maxHeartbeats 400000 in
theorem probe_home (h n:Nat)(h64:h<18446744073709551616)(hn:Pw n)(w:World):Calls Tryz.prog 244 #[.int .u64 (h:Int),.int .i64 (n:Int)] w fun e w'=>e= .returned (.int .i64 ((h % n:Nat):Int))∧w=w':=by
 have h1:(1:Int)≤(n:Int):=by have:=hn.pos;omega
 have h2:(n:Int)≤64:=by have:=hn.le;omega
 have hV:=home_val h64 hn
 have hm:((h % n:Nat):Int)<64:=by have:=Nat.mod_lt h hn.pos;omega
 clear hn h64;go_in;go_wp2;go_ret;exact⟨ret_int (by omega),rfl⟩
def lessE (a b:Ent):Bool:=decide (a.hash<b.hash)||(a.hash==b.hash && decide (a.key<b.key))
def cmpN (a b:Nat):Int:=if a<b then-1 else if b<a then 1 else 0
def orI (a b:Int):Int:=if a=0 then b else a
def entV (e:Ent):Value:= .agg #[.int .u64 (e.key:Int),.int .u64 (e.val:Int),.int .u64 (e.hash:Int)]
def entCells (e:Ent):List Value:=[.int .u64 (e.key:Int),.int .u64 (e.val:Int),.int .u64 (e.hash:Int)]
end Go.Proofs.YtfbljmcjadfkoaaGreatDoor

/-! The meter by its contracts. -/
namespace Go.Proofs.YtfbljmcjadfkoaaGreatDoor
open Go.RowKit AmC
variable {w w' w1 w2 : World} {S T : List Nat} {A : Prop} {C : List Nat → Prop}
structure Mod (S:List Nat)(w w':World):Prop where
 os:w'.os=w.os
 tape:w'.tape=w.tape
 output:w'.output=w.output
 size:w.heap.size≤w'.heap.size
 block:∀k,k<w.heap.size→k∉S→w'.heap[k]?=w.heap[k]?
theorem Mod.refl (S:List Nat)(w:World):Mod S w w:=⟨rfl,rfl,rfl,Nat.le_refl _,fun _ _ _=>rfl⟩
theorem Mod.of_below (h:Below w.heap.size w w')(S:List Nat):Mod S w w':=⟨h.os,h.tape,h.output,h.size,fun k hk _=>h.block k hk⟩
theorem Mod.trans {U:List Nat}(h1:Mod S w w1)(h2:Mod T w1 w2)(hS:∀k,k∈S→k<w.heap.size→k∈U)(hT:∀k,k∈T→k<w.heap.size→k∈U):Mod U w w2:=
 ⟨h2.os.trans h1.os,h2.tape.trans h1.tape,h2.output.trans h1.output,Nat.le_trans h1.size h2.size,fun k hk hn=>
  (h2.block k (Nat.lt_of_lt_of_le hk h1.size) (fun h=>hn (hT k h hk))).trans (h1.block k hk (fun h=>hn (hS k h hk)))⟩
theorem Mod.then (h1:Mod S w w1)(h2:Mod S w1 w2):Mod S w w2:=h1.trans h2 (fun _ h _=>h) (fun _ h _=>h)
theorem Mod.more (h:Mod S w w')(hS:∀k,k∈S→k∈T):Mod T w w':=⟨h.os,h.tape,h.output,h.size,fun k hk hn=>h.block k hk (fun hh=>hn (hS k hh))⟩
theorem Mod.drewN (S:List Nat)(w:World)(n:Nat):Mod S w (w.drewN n):=⟨rfl,rfl,rfl,Nat.le_refl _,fun _ _ _=>rfl⟩
theorem Mod.alloc (h:Mod S w w')(o:Obj):Mod S w (w'.alloc o):=h.then (Mod.of_below ((Below.refl _ _).alloc (Nat.le_refl _) o) S)
theorem Mod.set_ (h:Mod S w w'){b:Nat}(hb:b∈S∨w.heap.size≤b)(o:Nat)(u:Value):Mod S w (w'.setCell ⟨b,o,none⟩ u):=
 ⟨h.os,h.tape,h.output,by simpa using h.size,fun k hk hn=>by
  have hne:k≠b:=by rintro rfl;rcases hb with hb|hb;exact hn hb;omega
  exact(Below.heap_setCell w' ⟨b,o,none⟩ u k hne).trans (h.block k hk hn)⟩
theorem Mod.below {B:Nat}(h:Mod S w w')(hS:∀k,k∈S→B≤k)(hB:B≤w.heap.size):Below B w w':=
 ⟨h.os,h.tape,h.output,h.size,fun k hk=>h.block k (Nat.lt_of_lt_of_le hk hB) (fun hh=>absurd (hS k hh) (by omega))⟩
theorem Mod.to_below (h:Mod [] w w'):Below w.heap.size w w':=h.below (by simp) (Nat.le_refl _)
theorem Blk.mod {g:Nat}{t:TypeId}{cs:Array Value}(h:Blk w g t cs)(hm:Mod S w w')(hg:g∉S):Blk w' g t cs:=(hm.block g h.lt hg).trans h
class Md (A:Prop)(w w':World)(B:outParam Prop)(C:outParam (List Nat→Prop)):Prop where
 md:∀{S:List Nat},A→Mod S w w'→C S→B
theorem mv {B:Prop}[i:Md A w w' B C](hm:Mod S w w')(h:Hid A)(hs:C S:=by simp<;>omega):Hid B:=qd (i.md h.out hm hs)
theorem nb {B:Prop}[i:Md A w w' B C](hb:Below w.heap.size w w')(h:Hid A)(hs:C []:=by simp):Hid B:=qd (i.md h.out (Mod.of_below hb []) hs)
instance {w w':World}{g:Nat}{t:TypeId}{cs:Array Value}:Md (Blk w g t cs) w w' (Blk w' g t cs) (fun S=>g∉S):=⟨fun h hm hs=>Blk.mod h hm hs⟩
structure Cnt where
 p:Int
 v:Int
 u:Int
def clampI (n:Int):Int:=min (max n 0) 1099511627776
def sumI (a b:Int):Int:=min (clampI a+clampI b) 1099511627776
def plusC (a b:Cnt):Cnt:=⟨sumI a.p b.p,sumI a.v b.v,sumI a.u b.u⟩
def cntV (c:Cnt):Value:= .agg #[.int .i64 c.p,.int .i64 c.v,.int .i64 c.u]
theorem clampI_bd (n:Int):0≤clampI n∧clampI n≤1099511627776:=by unfold clampI;omega
set_option maxHeartbeats 400000 in
theorem meter_clamp (n:Int)(w:World):Calls Tryz.prog 200 #[.int .i64 n] w fun e w'=>e= .returned (.int .i64 (clampI n))∧w=w':=by
 have HC:=qd (show clampI n=min (max n 0) 1099511627776 from rfl);go_in;go_wp2
 all_goals
  go_ret;exact⟨ret_int (by have hc:=HC.out;first|omega|(rw[hc];first|omega|(split at* <;>omega))),rfl⟩
theorem flipC {P:Program}{f:FuncId}{args:Array Value}{v:Value}(h:Calls P f args w fun e w'=>e= .returned v∧w=w'):Calls P f args w fun e w'=>e= .returned v∧w'=w:=h.mono fun _ _ ⟨a,b⟩=>⟨a,b.symm⟩
set_option maxHeartbeats 400000 in
theorem meter_sum (a b:Int)(w:World):Calls Tryz.prog 162 #[.int .i64 a,.int .i64 b] w fun e w'=>e= .returned (.int .i64 (sumI a b))∧w=w':=by
 have HA:=qd (meter_clamp a w);have HB:=qd (meter_clamp b w);have HC:=qd (show sumI a b=min (clampI a+clampI b) 1099511627776 from rfl);obtain⟨a0,a1⟩:=clampI_bd a;obtain⟨b0,b1⟩:=clampI_bd b;go_in;go_wp2_with fail;refine HA.out.mono ?_;rintro e w1 ⟨rfl,rfl⟩;go_wp2_with fail;refine HB.out.mono ?_;rintro e w1 ⟨rfl,rfl⟩;go_wp2
 all_goals
  go_ret;exact⟨ret_int (by have hc:=HC.out;first|omega|(rw[hc];omega)),rfl⟩
set_option maxHeartbeats 2000000 in
set_option maxRecDepth 100000 in
theorem meter_Plus (c d:Cnt)(w:World):Calls Tryz.prog 127 #[cntV c,cntV d] w fun e w'=>e= .returned (cntV (plusC c d))∧Below w.heap.size w w':=by
 have HS:=qd (fun(a b:Int) (W:World)=>meter_sum a b W);unfold cntV plusC;generalize hp:sumI c.p d.p=sp;generalize hv:sumI c.v d.v=sv;generalize hu:sumI c.u d.u=su;have HP:=qd hp;have HV:=qd hv;have HU:=qd hu;clear hp hv hu;have hA:=Blk.alloc (Blk.alloc (Blk.new w 37 #[.int .i64 c.p,.int .i64 c.v,.int .i64 c.u]) (.cells #[.int .i64 d.p,.int .i64 d.v,.int .i64 d.u] 37)) (.cells #[.int .i64 0,.int .i64 0,.int .i64 0] 37);have hB:=Blk.alloc (Blk.new (w.alloc (.cells #[.int .i64 c.p,.int .i64 c.v,.int .i64 c.u] 37)) 37 #[.int .i64 d.p,.int .i64 d.v,.int .i64 d.u]) (.cells #[.int .i64 0,.int .i64 0,.int .i64 0] 37);have hD:=Blk.new ((w.alloc (.cells #[.int .i64 c.p,.int .i64 c.v,.int .i64 c.u] 37)).alloc (.cells #[.int .i64 d.p,.int .i64 d.v,.int .i64 d.u] 37)) 37 #[.int .i64 0,.int .i64 0,.int .i64 0];have hBel:Below w.heap.size w (((w.alloc (.cells #[.int .i64 c.p,.int .i64 c.v,.int .i64 c.u] 37)).alloc (.cells #[.int .i64 d.p,.int .i64 d.v,.int .i64 d.u] 37)).alloc (.cells #[.int .i64 0,.int .i64 0,.int .i64 0] 37)):=(((Below.refl _ w).alloc (Nat.le_refl _) _).alloc (by simp) _).alloc (by simp;omega) _;simp only[World.size_alloc]at hB hD
 obtain⟨W,hW⟩:∃W,W=((w.alloc (.cells #[.int .i64 c.p,.int .i64 c.v,.int .i64 c.u] 37)).alloc (.cells #[.int .i64 d.p,.int .i64 d.v,.int .i64 d.u] 37)).alloc (.cells #[.int .i64 0,.int .i64 0,.int .i64 0] 37):=⟨_,rfl⟩;rw[←hW]at hA hB hD hBel;have a0:=hA.cell 0;have a1:=hA.cell 1;have a2:=hA.cell 2;have b0:=hB.cell 0;have b1:=hB.cell 1;have b2:=hB.cell 2;have d0:=hD.cell 0;have d1:=hD.cell 1;have d2:=hD.cell 2;simp only[gl]at a0 a1 a2 b0 b1 b2 d0 d1 d2;obtain⟨f0,f1,f2⟩:=hD.f3;have HW:=qd hW;clear hW hA hB hD;go_in;go_upto_region 1 with fail;rw[←HW.out];go_still_tail 15,(by kernel_rfl)
 still_call (flipC (HS.out _ _ _))
 repeat still_step
 still_call (flipC (HS.out _ _ _))
 repeat still_step
 still_call (flipC (HS.out _ _ _))
 refine wpStill_nil ?_;change wpList _ _ _ _ _ W.drew;go_wp2;rw[HP.out,HV.out,HU.out];refine bodyPost_ret (v:= .agg #[.int .i64 sp,.int .i64 sv,.int .i64 su]) (by simp[results,Tryz.results127,go_sem,d0,d1,d2]) rfl ⟨rfl, ?_⟩;exact(((hBel.setCell (p:=⟨w.heap.size+1+1,0,none⟩) (by simp;omega) _).setCell (p:=⟨w.heap.size+1+1,1,none⟩) (by simp;omega) _).setCell (p:=⟨w.heap.size+1+1,2,none⟩) (by simp;omega) _).drew
end Go.Proofs.YtfbljmcjadfkoaaGreatDoor

/-! The same for what a call keeps. No statement of the claim. -/
namespace Go.Proofs.YtfbljmcjadfkoaaGreatDoor
open Go.RowKit
theorem qM {A B:Prop}{C:List Nat→Prop}{S:List Nat}{w w':World}[i:Md A w w' B C](hm:Mod S w w')(h:Hid A)(hs:C S:=by simp<;>omega):Hid B:=Lib.hid (i.md h.out hm hs)
theorem qB {A B:Prop}{C:List Nat→Prop}{w w':World}[i:Md A w w' B C](hb:Below w.heap.size w w')(h:Hid A)(hs:C []:=by simp):Hid B:=Lib.hid (i.md h.out (Mod.of_below hb []) hs)
theorem qT {S:List Nat}{w w1 w2:World}(h:Hid (Mod S w w1))(hb:Below w1.heap.size w1 w2):Hid (Mod S w w2):=Lib.hid (h.out.then (Mod.of_below hb _))
theorem qU {T U:List Nat}{w w1 w2:World}(h1:Hid (Mod U w w1))(h2:Mod T w1 w2)(hT:∀k,k∈T→k<w.heap.size→k∈U:=by intro k hk hl;simp at hk⊢<;>omega):Hid (Mod U w w2):=Lib.hid (h1.out.trans h2 (fun _ hh _=>hh) hT)
theorem qS1 {p:World→Prop}{w:World}{b:Nat}{t:TypeId}{cs:Array Value}{i0:Nat}{v0:Value}(h:Blk w b t cs)(k:∀v,Blk v b t (cs.setIfInBounds i0 v0)∧Mod [b] w v→p v):p (w.setCell ⟨b,i0,none⟩ v0):=k _ ⟨(h.set_ i0 v0),((Mod.refl [b] w).set_ (.inl (by simp)) i0 v0)⟩
theorem Mod.sl {b:Nat}{S:List Nat}{w w':World}(h:Mod (b::S) w w')(o:Nat)(u:Value):Mod (b::S) w (w'.setCell ⟨b,o,none⟩ u):=h.set_ (.inl (by simp)) o u
end Go.Proofs.YtfbljmcjadfkoaaGreatDoor
