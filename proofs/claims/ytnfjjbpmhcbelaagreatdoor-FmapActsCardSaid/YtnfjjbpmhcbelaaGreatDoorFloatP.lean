/- A partial function as a row of pairs, rising by keys: looked up, put, taken out. No program in sight. -/
import Ieee.Arith
namespace Go.Proofs.YtnfjjbpmhcbelaaGreatDoor.ru
open Ieee
variable {p : Nat × Nat} {k v : Nat}
abbrev PL:=List (Nat×Nat)
def je (l:PL):Prop:=l.Pairwise fun a b=>a.1<b.1
def gy (l:PL)(k:Nat):Nat:=l.countP fun p=>decide (p.1<k)
def kL (l:PL)(k:Nat):Bool:=(l[gy l k]?).any fun p=>p.1==k
def oq (l:PL)(k:Nat):Option Nat:=(l.find? fun p=>p.1==k).map Prod.snd
def mH (l:PL)(k v:Nat):PL:=if kL l k then l.set (gy l k) (k,v)else l.take (gy l k)++(k,v)::l.drop (gy l k)
def lN (l:PL)(k:Nat):PL:=if kL l k then l.eraseIdx (gy l k)else l
theorem Je (l:PL)(k:Nat):gy l k≤l.length:=List.countP_le_length
theorem xB:∀{l:PL} {k i:Nat} {p:Nat×Nat},je l→l[i]?=some p→(i<gy l k↔p.1<k)
 | [],_,_,_,_,h=>by simp at h
 |x::l,k,i,p,ha,h=>by
  have ha':=List.pairwise_cons.1 ha;unfold gy;rw[List.countP_cons];by_cases hx:x.1<k
  ·simp only[hx,decide_true,if_true]
   cases i with
   |zero=>obtain rfl:=Option.some.inj h;simp[hx]
   |succ i=>
    have:=xB (k:=k) (i:=i) ha'.2 h;unfold gy at this;omega
  ·simp only[hx,decide_false]
   have h0:l.countP (fun p=>decide (p.1<k))=0:=by
    rw[List.countP_eq_zero];intro y hy hd;have h1:=ha'.1 y hy
    have h2:y.1<k:=by simpa using hd
    omega
   rw[h0]
   have hp:x.1≤p.1:=by
    cases i with
    |zero=>obtain rfl:=Option.some.inj h;exact Nat.le_refl _
    |succ i=>exact Nat.le_of_lt (ha'.1 p (List.mem_of_getElem? h))
   simp;omega
theorem uY {l:PL}(h:je l){i j:Nat}{q:Nat×Nat}(hij:i<j)(hp:l[i]?=some p)(hq:l[j]?=some q):p.1<q.1:=by
 obtain⟨h1,rfl⟩:=List.getElem?_eq_some_iff.1 hp;obtain⟨h2,rfl⟩:=List.getElem?_eq_some_iff.1 hq;exact List.pairwise_iff_getElem.1 h i j h1 h2 hij
theorem abP {l:PL}(h:∀(i j:Nat) (p q:Nat×Nat),i<j→l[i]?=some p→l[j]?=some q→p.1<q.1):je l:=
 List.pairwise_iff_getElem.2 fun i j h1 h2 hij=>h i j _ _ hij (List.getElem?_eq_getElem h1) (List.getElem?_eq_getElem h2)
theorem lQ {l:PL}(ha:je l):oq l k=some v↔(k,v)∈l:=by
 unfold oq;constructor
 ·intro h;obtain⟨p,hp,rfl⟩:=Option.map_eq_some_iff.1 h;have h1:=List.find?_some hp;have h2:=List.mem_of_find?_eq_some hp
  have:p.1=k:=by simpa using h1
  rw[←this];exact h2
 ·intro h
  cases hf:l.find? fun p=>p.1==k with
  |none=>
   have:=List.find?_eq_none.1 hf _ h;simp at this
  |some p=>
   have h1:p.1=k:=by simpa using List.find?_some hf
   obtain⟨i,hi⟩:=List.getElem?_of_mem h;obtain⟨j,hj⟩:=List.getElem?_of_mem (List.mem_of_find?_eq_some hf)
   have hij:i=j:=by
    rcases Nat.lt_trichotomy i j with hl|hl|hl
    ·have:=uY ha hl hi hj;simp only at this;omega
    ·exact hl
    ·have:=uY ha hl hj hi;simp only at this;omega
   subst hij;rw[hi]at hj;obtain rfl:=Option.some.inj hj;rfl
theorem oF {l:PL}:oq l k=none↔∀p∈l,p.1≠k:=by
 unfold oq;rw[Option.map_eq_none_iff,List.find?_eq_none];simp
theorem pG {l:PL}(ha:je l):kL l k=true↔∃v,l[gy l k]?=some (k,v)∧oq l k=some v:=by
 unfold kL
 cases h:l[gy l k]? with
 |none=>simp
 |some p=>
  simp only[Option.any_some];constructor
  ·intro hk
   have hk':p.1=k:=by simpa using hk
   subst hk';exact⟨p.2,rfl,(lQ ha).2 (List.mem_of_getElem? h)⟩
  ·rintro⟨v,hv,_⟩;obtain rfl:=Option.some.inj hv;simp
theorem rz {l:PL}(ha:je l)(h:kL l k=false):oq l k=none:=by
 rw[oF];intro p hp he;obtain⟨i,hi⟩:=List.getElem?_of_mem hp;have h1:=xB (k:=k) ha hi
 have hge:gy l k≤i:=by omega
 have hlt:gy l k<l.length:=by have:=(List.getElem?_eq_some_iff.1 hi).1;omega
 obtain⟨q,hq⟩:∃q,l[gy l k]?=some q:=⟨_,List.getElem?_eq_getElem hlt⟩;have h2:=not_congr (xB (k:=k) ha hq);rcases Nat.lt_or_eq_of_le hge with hl|hl
 ·have:=uY ha hl hq hi;omega
 ·unfold kL at h;rw[hl,hi]at h;simp[he]at h
theorem zP {l:PL}(ha:je l)(k:Nat):kL l k=(oq l k).isSome:=by
 cases h:kL l k with
 |true=>obtain⟨v,_,h2⟩:=(pG ha).1 h;rw[h2];rfl
 |false=>rw[rz ha h];rfl
theorem FL {l:PL}(ha:je l):p∈mH l k v↔p=(k,v)∨(p∈l∧p.1≠k):=by
 unfold mH;by_cases hk:kL l k=true
 ·rw[if_pos hk];obtain⟨u,hu,_⟩:=(pG ha).1 hk;obtain⟨hlt,hu'⟩:=List.getElem?_eq_some_iff.1 hu;constructor
  ·intro h;obtain⟨i,hi⟩:=List.getElem?_of_mem h;rw[List.getElem?_set]at hi;by_cases he:gy l k=i
   ·rw[if_pos he,if_pos hlt]at hi;exact .inl (Option.some.inj hi).symm
   ·rw[if_neg he]at hi;refine .inr ⟨List.mem_of_getElem? hi,fun hke=>he ?_⟩;rcases Nat.lt_trichotomy (gy l k) i with hl|hl|hl
    ·have:=uY ha hl hu hi;simp only at this;omega
    ·exact hl
    ·have:=uY ha hl hi hu;simp only at this;omega
  ·rintro(rfl|⟨h,hne⟩)
   ·exact List.mem_of_getElem? (i:=gy l k) (by rw[List.getElem?_set,if_pos rfl,if_pos hlt])
   ·obtain⟨i,hi⟩:=List.getElem?_of_mem h;refine List.mem_of_getElem? (i:=i) ?_;rw[List.getElem?_set,if_neg,hi];intro he;subst he;rw[hu]at hi;obtain rfl:=Option.some.inj hi;exact hne rfl
 ·rw[if_neg hk];have h0:=oF.1 (rz ha (by simpa using hk));rw[List.mem_append,List.mem_cons];constructor
  ·rintro(h|h|h)
   ·exact .inr ⟨List.mem_of_mem_take h,h0 p (List.mem_of_mem_take h)⟩
   ·exact .inl h
   ·exact .inr ⟨List.mem_of_mem_drop h,h0 p (List.mem_of_mem_drop h)⟩
  ·rintro(h|⟨h,_⟩)
   ·exact .inr (.inl h)
   ·rw[←List.take_append_drop (gy l k) l,List.mem_append]at h;rcases h with h|h
    ·exact .inl h
    ·exact .inr (.inr h)
theorem FM {l:PL}(ha:je l)(k v:Nat):je (mH l k v):=by
 unfold mH;by_cases hk:kL l k=true
 ·rw[if_pos hk];obtain⟨u,hu,_⟩:=(pG ha).1 hk
  have key:∀(i:Nat) (p:Nat×Nat),(l.set (gy l k) (k,v))[i]?=some p→∃p':Nat×Nat,l[i]?=some p'∧p'.1=p.1:=by
   intro i p hi;rw[List.getElem?_set]at hi;by_cases he:gy l k=i
   ·rw[if_pos he]at hi;split at hi
    ·obtain rfl:=Option.some.inj hi;exact⟨(k,u),he▸hu,rfl⟩
    ·cases hi
   ·rw[if_neg he]at hi;exact⟨p,hi,rfl⟩
  refine abP fun i j p q hij hp hq=> ?_;obtain⟨p',h1,e1⟩:=key i p hp;obtain⟨q',h2,e2⟩:=key j q hq;have:=uY ha hij h1 h2;omega
 ·rw[if_neg hk];have h0:=oF.1 (rz ha (by simpa using hk))
  have hlow:∀p∈l.take (gy l k),p.1<k:=by
   intro p hp;obtain⟨i,hi⟩:=List.getElem?_of_mem hp;rw[List.getElem?_take]at hi;split at hi
   ·next hlt=>exact(xB ha hi).1 hlt
   ·cases hi
  have hhigh:∀p∈l.drop (gy l k),k<p.1:=by
   intro p hp;have hne:=h0 p (List.mem_of_mem_drop hp);obtain⟨i,hi⟩:=List.getElem?_of_mem hp;rw[List.getElem?_drop]at hi;have:=not_congr (xB (k:=k) ha hi);omega
  unfold je;rw[List.pairwise_append,List.pairwise_cons];refine⟨ha.sublist (List.take_sublist _ _),⟨fun p hp=>hhigh p hp,ha.sublist (List.drop_sublist _ _)⟩,fun p hp q hq=> ?_⟩;have h1:=hlow p hp;rcases List.mem_cons.1 hq with rfl|hq
  ·exact h1
  ·have:=hhigh q hq;omega
theorem XF {l:PL}(ha:je l)(k v k':Nat):oq (mH l k v) k'=if k'=k then some v else oq l k':=by
 have hb:=FM ha k v;by_cases hk:k'=k
 ·subst hk;rw[if_pos rfl];exact(lQ hb).2 ((FL ha).2 (.inl rfl))
 ·rw[if_neg hk]
  cases h:oq l k' with
  |some u=>exact(lQ hb).2 ((FL ha).2 (.inr ⟨(lQ ha).1 h,hk⟩))
  |none=>
   rw[oF]at h⊢;intro p hp;rcases(FL ha).1 hp with rfl|⟨h1,_⟩
   ·exact fun e=>hk e.symm
   ·exact h p h1
theorem EH {l:PL}(ha:je l)(k v:Nat):(mH l k v).length=if(oq l k).isSome then l.length else l.length+1:=by
 rw[←zP ha];unfold mH;by_cases hk:kL l k=true
 ·rw[if_pos hk,if_pos hk,List.length_set]
 ·rw[if_neg hk,if_neg hk,List.length_append,List.length_cons,List.length_take,List.length_drop];have:=Je l k;omega
theorem FN {l:PL}(ha:je l):p∈lN l k↔p∈l∧p.1≠k:=by
 unfold lN;by_cases hk:kL l k=true
 ·rw[if_pos hk];obtain⟨u,hu,_⟩:=(pG ha).1 hk;rw[List.mem_eraseIdx_iff_getElem?];constructor
  ·rintro⟨i,hne,hi⟩;refine⟨List.mem_of_getElem? hi,fun hke=>hne ?_⟩;rcases Nat.lt_trichotomy (gy l k) i with hl|hl|hl
   ·have:=uY ha hl hu hi;simp only at this;omega
   ·exact hl.symm
   ·have:=uY ha hl hi hu;simp only at this;omega
  ·rintro⟨h,hne⟩;obtain⟨i,hi⟩:=List.getElem?_of_mem h;refine⟨i,fun he=>hne ?_,hi⟩;subst he;rw[hu]at hi;obtain rfl:=Option.some.inj hi;rfl
 ·rw[if_neg hk];have h0:=oF.1 (rz ha (by simpa using hk));exact⟨fun h=>⟨h,h0 p h⟩,fun h=>h.1⟩
theorem FP {l:PL}(ha:je l)(k:Nat):je (lN l k):=by
 unfold lN;split
 ·exact ha.sublist (List.eraseIdx_sublist _ _)
 ·exact ha
theorem XG {l:PL}(ha:je l)(k k':Nat):oq (lN l k) k'=if k'=k then none else oq l k':=by
 have hb:=FP ha k;by_cases hk:k'=k
 ·subst hk;rw[if_pos rfl,oF];exact fun p hp=>((FN ha).1 hp).2
 ·rw[if_neg hk]
  cases h:oq l k' with
  |some u=>exact(lQ hb).2 ((FN ha).2 ⟨(lQ ha).1 h,hk⟩)
  |none=>
   rw[oF]at h⊢;exact fun p hp=>h p ((FN ha).1 hp).1
theorem Qw:∀{l m:PL},je l→je m→(∀p,p∈l↔p∈m)→l=m
 | [],[],_,_,_=>rfl
 | [],y::m,_,_,h=>by have:=(h y).2 (by simp);simp at this
 |x::l,[],_,_,h=>by have:=(h x).1 (by simp);simp at this
 |x::l,y::m,hl,hm,h=>by
  have hl':=List.pairwise_cons.1 hl;have hm':=List.pairwise_cons.1 hm
  have hxy:x=y:=by
   rcases List.mem_cons.1 ((h x).1 (by simp))with e|e
   ·exact e
   ·rcases List.mem_cons.1 ((h y).2 (by simp))with e2|e2
    ·exact e2.symm
    ·have:=hm'.1 x e;have:=hl'.1 y e2;omega
  subst hxy;congr 1;refine Qw hl'.2 hm'.2 fun p=>⟨fun hp=> ?_,fun hp=> ?_⟩
  ·rcases List.mem_cons.1 ((h p).1 (by simp[hp]))with rfl|e
   ·have:=hl'.1 _ hp;omega
   ·exact e
  ·rcases List.mem_cons.1 ((h p).2 (by simp[hp]))with rfl|e
   ·have:=hm'.1 _ hp;omega
   ·exact e
def afd (l:PL):PL:=l.foldl (fun t p=>mH t p.1 p.2) []
end Go.Proofs.YtnfjjbpmhcbelaaGreatDoor.ru

/-! The plain law of floats below 2 to the 50th: what is exact, and what rounding to the nearest whole number gives. No program in sight. -/
namespace Go.Proofs.YtnfjjbpmhcbelaaGreatDoor.kM
open Ieee
variable {m w : Nat}
theorem MF:double.signWeight=9223372036854775808:=by decide
theorem FQ:double.binade=4503599627370496:=by decide
theorem RQ:double.infRung=9218868437227405312:=by decide
theorem aaN:double.leastPlace= -1074:=by decide
def abQ (w:Nat):Nat:=if w<4503599627370496 then w else 4503599627370496+w % 4503599627370496
def RS (w:Nat):Nat:=if w<4503599627370496 then 1074 else 1075-w/4503599627370496
def Low (w:Nat):Prop:=w≤4832362400168542208
def whole (w:Nat):Nat:=abQ w/2^RS w
def wS (w:Nat):Nat:=abQ w % 2^RS w
def rounded (w:Nat):Nat:=whole w+if 2^RS w≤2*wS w then 1 else 0
def aeI (w:Nat):Nat:=
 if w/4503599627370496<1023 then(if w/4503599627370496=1022 then 4607182418800017408 else 0)
 else(w+2^(51-(w/4503599627370496-1023)))/2^(52-(w/4503599627370496-1023))*2^(52-(w/4503599627370496-1023))
end Go.Proofs.YtnfjjbpmhcbelaaGreatDoor.kM
