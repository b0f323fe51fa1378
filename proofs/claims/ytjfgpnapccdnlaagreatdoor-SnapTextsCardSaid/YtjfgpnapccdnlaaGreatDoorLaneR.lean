/- A partial function as a row of pairs, rising by keys: looked up, put, taken out. No program in sight. -/
import Derived.Laws.Bits64
import Derived.Laws.Bits64b
namespace Go.Proofs.YtjfgpnapccdnlaaGreatDoor.wF
open Go
variable {p : Nat × Nat} {k v : Nat}
abbrev PL:=List (Nat×Nat)
def jq (l:PL):Prop:=l.Pairwise fun a b=>a.1<b.1
def iy (l:PL)(k:Nat):Nat:=l.countP fun p=>decide (p.1<k)
def qV (l:PL)(k:Nat):Bool:=(l[iy l k]?).any fun p=>p.1==k
def oC (l:PL)(k:Nat):Option Nat:=(l.find? fun p=>p.1==k).map Prod.snd
def nQ (l:PL)(k v:Nat):PL:=if qV l k then l.set (iy l k) (k,v)else l.take (iy l k)++(k,v)::l.drop (iy l k)
def agw (l:PL)(k:Nat):PL:=if qV l k then l.eraseIdx (iy l k)else l
theorem JI (l:PL)(k:Nat):iy l k≤l.length:=List.countP_le_length
theorem xw:∀{l:PL} {k i:Nat} {p:Nat×Nat},jq l→l[i]?=some p→(i<iy l k↔p.1<k)
 | [],_,_,_,_,h=>by simp at h
 |x::l,k,i,p,ha,h=>by
  have ha':=List.pairwise_cons.1 ha;unfold iy;rw[List.countP_cons];by_cases hx:x.1<k
  ·simp only[hx,decide_true,if_true]
   cases i with
   |zero=>obtain rfl:=Option.some.inj h;simp[hx]
   |succ i=>
    have:=xw (k:=k) (i:=i) ha'.2 h;unfold iy at this;omega
  ·simp only[hx,decide_false]
   have h0:l.countP (fun p=>decide (p.1<k))=0:=by
    rw[List.countP_eq_zero];intro y hy hd;have h1:=ha'.1 y hy
    have h2:y.1<k:=by simpa using hd
    omega
   rw[h0]
   have hp:x.1≤p.1:=by
    cases i with
    |zero=>obtain rfl:=Option.some.inj h;exact Nat.le_refl _
    |succ i=>exact Nat.le_of_lt (ha'.1 p (List.mem_of_getElem? h))
   simp;omega
theorem Aa {l:PL}(h:jq l){i j:Nat}{q:Nat×Nat}(hij:i<j)(hp:l[i]?=some p)(hq:l[j]?=some q):p.1<q.1:=by
 obtain⟨h1,rfl⟩:=List.getElem?_eq_some_iff.1 hp;obtain⟨h2,rfl⟩:=List.getElem?_eq_some_iff.1 hq;exact List.pairwise_iff_getElem.1 h i j h1 h2 hij
theorem acW {l:PL}(h:∀(i j:Nat) (p q:Nat×Nat),i<j→l[i]?=some p→l[j]?=some q→p.1<q.1):jq l:=
 List.pairwise_iff_getElem.2 fun i j h1 h2 hij=>h i j _ _ hij (List.getElem?_eq_getElem h1) (List.getElem?_eq_getElem h2)
theorem oD {l:PL}(ha:jq l):oC l k=some v↔(k,v)∈l:=by
 unfold oC;constructor
 ·intro h;obtain⟨p,hp,rfl⟩:=Option.map_eq_some_iff.1 h;have h1:=List.find?_some hp;have h2:=List.mem_of_find?_eq_some hp
  have:p.1=k:=by simpa using h1
  rw[←this];exact h2
 ·intro h
  cases hf:l.find? fun p=>p.1==k with
  |none=>
   have:=List.find?_eq_none.1 hf _ h;simp at this
  |some p=>
   have h1:p.1=k:=by simpa using List.find?_some hf
   obtain⟨i,hi⟩:=List.getElem?_of_mem h;obtain⟨j,hj⟩:=List.getElem?_of_mem (List.mem_of_find?_eq_some hf)
   have hij:i=j:=by
    rcases Nat.lt_trichotomy i j with hl|hl|hl
    ·have:=Aa ha hl hi hj;simp only at this;omega
    ·exact hl
    ·have:=Aa ha hl hj hi;simp only at this;omega
   subst hij;rw[hi]at hj;obtain rfl:=Option.some.inj hj;rfl
theorem oF {l:PL}:oC l k=none↔∀p∈l,p.1≠k:=by
 unfold oC;rw[Option.map_eq_none_iff,List.find?_eq_none];simp
theorem EF {l:PL}(ha:jq l):qV l k=true↔∃v,l[iy l k]?=some (k,v)∧oC l k=some v:=by
 unfold qV
 cases h:l[iy l k]? with
 |none=>simp
 |some p=>
  simp only[Option.any_some];constructor
  ·intro hk
   have hk':p.1=k:=by simpa using hk
   subst hk';exact⟨p.2,rfl,(oD ha).2 (List.mem_of_getElem? h)⟩
  ·rintro⟨v,hv,_⟩;obtain rfl:=Option.some.inj hv;simp
theorem CU {l:PL}(ha:jq l)(h:qV l k=false):oC l k=none:=by
 rw[oF];intro p hp he;obtain⟨i,hi⟩:=List.getElem?_of_mem hp;have h1:=xw (k:=k) ha hi
 have hge:iy l k≤i:=by omega
 have hlt:iy l k<l.length:=by have:=(List.getElem?_eq_some_iff.1 hi).1;omega
 obtain⟨q,hq⟩:∃q,l[iy l k]?=some q:=⟨_,List.getElem?_eq_getElem hlt⟩;have h2:=not_congr (xw (k:=k) ha hq);rcases Nat.lt_or_eq_of_le hge with hl|hl
 ·have:=Aa ha hl hq hi;omega
 ·unfold qV at h;rw[hl,hi]at h;simp[he]at h
theorem RH {l:PL}(ha:jq l)(k:Nat):qV l k=(oC l k).isSome:=by
 cases h:qV l k with
 |true=>obtain⟨v,_,h2⟩:=(EF ha).1 h;rw[h2];rfl
 |false=>rw[CU ha h];rfl
theorem Bd {l:PL}(ha:jq l):p∈nQ l k v↔p=(k,v)∨(p∈l∧p.1≠k):=by
 unfold nQ;by_cases hk:qV l k=true
 ·rw[if_pos hk];obtain⟨u,hu,_⟩:=(EF ha).1 hk;obtain⟨hlt,hu'⟩:=List.getElem?_eq_some_iff.1 hu;constructor
  ·intro h;obtain⟨i,hi⟩:=List.getElem?_of_mem h;rw[List.getElem?_set]at hi;by_cases he:iy l k=i
   ·rw[if_pos he,if_pos hlt]at hi;exact .inl (Option.some.inj hi).symm
   ·rw[if_neg he]at hi;refine .inr ⟨List.mem_of_getElem? hi,fun hke=>he ?_⟩;rcases Nat.lt_trichotomy (iy l k) i with hl|hl|hl
    ·have:=Aa ha hl hu hi;simp only at this;omega
    ·exact hl
    ·have:=Aa ha hl hi hu;simp only at this;omega
  ·rintro(rfl|⟨h,hne⟩)
   ·exact List.mem_of_getElem? (i:=iy l k) (by rw[List.getElem?_set,if_pos rfl,if_pos hlt])
   ·obtain⟨i,hi⟩:=List.getElem?_of_mem h;refine List.mem_of_getElem? (i:=i) ?_;rw[List.getElem?_set,if_neg,hi];intro he;subst he;rw[hu]at hi;obtain rfl:=Option.some.inj hi;exact hne rfl
 ·rw[if_neg hk];have h0:=oF.1 (CU ha (by simpa using hk));rw[List.mem_append,List.mem_cons];constructor
  ·rintro(h|h|h)
   ·exact .inr ⟨List.mem_of_mem_take h,h0 p (List.mem_of_mem_take h)⟩
   ·exact .inl h
   ·exact .inr ⟨List.mem_of_mem_drop h,h0 p (List.mem_of_mem_drop h)⟩
  ·rintro(h|⟨h,_⟩)
   ·exact .inr (.inl h)
   ·rw[←List.take_append_drop (iy l k) l,List.mem_append]at h;rcases h with h|h
    ·exact .inl h
    ·exact .inr (.inr h)
theorem Bf {l:PL}(ha:jq l)(k v:Nat):jq (nQ l k v):=by
 unfold nQ;by_cases hk:qV l k=true
 ·rw[if_pos hk];obtain⟨u,hu,_⟩:=(EF ha).1 hk
  have key:∀(i:Nat) (p:Nat×Nat),(l.set (iy l k) (k,v))[i]?=some p→∃p':Nat×Nat,l[i]?=some p'∧p'.1=p.1:=by
   intro i p hi;rw[List.getElem?_set]at hi;by_cases he:iy l k=i
   ·rw[if_pos he]at hi;split at hi
    ·obtain rfl:=Option.some.inj hi;exact⟨(k,u),he▸hu,rfl⟩
    ·cases hi
   ·rw[if_neg he]at hi;exact⟨p,hi,rfl⟩
  refine acW fun i j p q hij hp hq=> ?_;obtain⟨p',h1,e1⟩:=key i p hp;obtain⟨q',h2,e2⟩:=key j q hq;have:=Aa ha hij h1 h2;omega
 ·rw[if_neg hk];have h0:=oF.1 (CU ha (by simpa using hk))
  have hlow:∀p∈l.take (iy l k),p.1<k:=by
   intro p hp;obtain⟨i,hi⟩:=List.getElem?_of_mem hp;rw[List.getElem?_take]at hi;split at hi
   ·next hlt=>exact(xw ha hi).1 hlt
   ·cases hi
  have hhigh:∀p∈l.drop (iy l k),k<p.1:=by
   intro p hp;have hne:=h0 p (List.mem_of_mem_drop hp);obtain⟨i,hi⟩:=List.getElem?_of_mem hp;rw[List.getElem?_drop]at hi;have:=not_congr (xw (k:=k) ha hi);omega
  unfold jq;rw[List.pairwise_append,List.pairwise_cons];refine⟨ha.sublist (List.take_sublist _ _),⟨fun p hp=>hhigh p hp,ha.sublist (List.drop_sublist _ _)⟩,fun p hp q hq=> ?_⟩;have h1:=hlow p hp;rcases List.mem_cons.1 hq with rfl|hq
  ·exact h1
  ·have:=hhigh q hq;omega
theorem YF {l:PL}(ha:jq l)(k v k':Nat):oC (nQ l k v) k'=if k'=k then some v else oC l k':=by
 have hb:=Bf ha k v;by_cases hk:k'=k
 ·subst hk;rw[if_pos rfl];exact(oD hb).2 ((Bd ha).2 (.inl rfl))
 ·rw[if_neg hk]
  cases h:oC l k' with
  |some u=>exact(oD hb).2 ((Bd ha).2 (.inr ⟨(oD ha).1 h,hk⟩))
  |none=>
   rw[oF]at h⊢;intro p hp;rcases(Bd ha).1 hp with rfl|⟨h1,_⟩
   ·exact fun e=>hk e.symm
   ·exact h p h1
theorem QN {l:PL}(ha:jq l)(k v:Nat):(nQ l k v).length=if(oC l k).isSome then l.length else l.length+1:=by
 rw[←RH ha];unfold nQ;by_cases hk:qV l k=true
 ·rw[if_pos hk,if_pos hk,List.length_set]
 ·rw[if_neg hk,if_neg hk,List.length_append,List.length_cons,List.length_take,List.length_drop];have:=JI l k;omega
theorem RI:∀{l m:PL},jq l→jq m→(∀p,p∈l↔p∈m)→l=m
 | [],[],_,_,_=>rfl
 | [],y::m,_,_,h=>by have:=(h y).2 (by simp);simp at this
 |x::l,[],_,_,h=>by have:=(h x).1 (by simp);simp at this
 |x::l,y::m,hl,hm,h=>by
  have hl':=List.pairwise_cons.1 hl;have hm':=List.pairwise_cons.1 hm
  have hxy:x=y:=by
   rcases List.mem_cons.1 ((h x).1 (by simp))with e|e
   ·exact e
   ·rcases List.mem_cons.1 ((h y).2 (by simp))with e2|e2
    ·exact e2.symm
    ·have:=hm'.1 x e;have:=hl'.1 y e2;omega
  subst hxy;congr 1;refine RI hl'.2 hm'.2 fun p=>⟨fun hp=> ?_,fun hp=> ?_⟩
  ·rcases List.mem_cons.1 ((h p).1 (by simp[hp]))with rfl|e
   ·have:=hl'.1 _ hp;omega
   ·exact e
  ·rcases List.mem_cons.1 ((h p).2 (by simp[hp]))with rfl|e
   ·have:=hm'.1 _ hp;omega
   ·exact e
theorem YG {l m:PL}(hl:jq l)(hm:jq m)(h:∀k,oC l k=oC m k):l=m:=
 RI hl hm fun p=>by rw[←oD hl (k:=p.1) (v:=p.2),←oD hm (k:=p.1) (v:=p.2),h]
def jN (l:PL):PL:=l.foldl (fun t p=>nQ t p.1 p.2) []
theorem VI (l:PL)(p:Nat×Nat):jN (l++[p])=nQ (jN l) p.1 p.2:=by unfold jN;rw[List.foldl_append];rfl
theorem KE:∀(l t:PL),jq t→jq (l.foldl (fun t p=>nQ t p.1 p.2) t)
 | [],_,h=>h
 |p::l,_,h=>KE l _ (Bf h p.1 p.2)
theorem Bj (l:PL):jq (jN l):=KE l [] List.Pairwise.nil
theorem KF:∀(l t:PL),jq t→(l.map Prod.fst).Nodup→(∀p∈l,oC t p.1=none)→(∀q,q∈l.foldl (fun t p=>nQ t p.1 p.2) t↔q∈t∨q∈l)∧(l.foldl (fun t p=>nQ t p.1 p.2) t).length=t.length+l.length
 | [],t,_,_,_=>by simp
 |p::l,t,ht,hn,hd=>by
  rw[List.map_cons,List.nodup_cons]at hn;have hp:=hd p (by simp)
  have ih:=KF l (nQ t p.1 p.2) (Bf ht _ _) hn.2 (fun q hq=>by
   rw[YF ht,if_neg (fun e:q.1=p.1=>hn.1 (e▸List.mem_map_of_mem hq))]
   exact hd q (by simp[hq]))
  rw[QN ht,hp]at ih;refine⟨fun q=> ?_, ?_⟩
  ·rw[List.foldl_cons,ih.1 q,Bd ht,List.mem_cons];constructor
   ·rintro((h|h)|h)
    ·exact .inr (.inl h)
    ·exact .inl h.1
    ·exact .inr (.inr h)
   ·rintro(h|h|h)
    ·exact .inl (.inr ⟨h,(oF.1 hp) q h⟩)
    ·exact .inl (.inl h)
    ·exact .inr h
  ·rw[List.foldl_cons,ih.2];simp;omega
theorem NQ {l:PL}(hn:(l.map Prod.fst).Nodup):(∀q,q∈jN l↔q∈l)∧(jN l).length=l.length:=by
 have:=KF l [] List.Pairwise.nil hn (fun _ _=>rfl);refine⟨fun q=> ?_, ?_⟩
 ·rw[jN,this.1 q];simp
 ·rw[jN,this.2];simp
end Go.Proofs.YtjfgpnapccdnlaaGreatDoor.wF

/-! Words of eight lanes, lane by lane. No program in sight. -/
namespace Go.Proofs.YtjfgpnapccdnlaaGreatDoor.dF
open Go
variable {a b : Nat} {l t : List Nat}
def w8:List Nat→Nat
 | []=>0
 |b::t=>b+256*w8 t
def Bytes (l:List Nat):Prop:=∀b∈l,b<256
theorem Bytes.head (h:Bytes (b::t)):b<256:=h b (by simp)
theorem Bytes.tail (h:Bytes (b::t)):Bytes t:=fun x hx=>h x (by simp[hx])
theorem Nv:∀(l:List Nat),Bytes l→w8 l<256^l.length
 | [],_=>by simp[w8]
 |b::t,h=>by
  have h1:=Nv t h.tail;have h2:=h.head;simp only[w8,List.length_cons,Nat.pow_succ];omega
theorem qW (h:Bytes l)(hl:l.length=8):w8 l<18446744073709551616:=by
 have:=Nv l h;rw[hl]at this;exact this
theorem mY (a x j:Nat)(ha:a<256):(a+256*x).testBit j=if j<8 then a.testBit j else x.testBit (j-8):=by
 have:=Nat.testBit_two_pow_mul_add x (b:=a) (i:=8) (by simpa using ha) j;rw[show 2^8*x+a=a+256*x by omega]at this;exact this
theorem and_cons (x y:Nat)(ha:a<256)(hb:b<256):(a+256*x) &&& (b+256*y)=(a &&& b)+256*(x &&& y):=by
 apply Nat.eq_of_testBit_eq;intro j;have h:a &&& b<256:=Nat.lt_of_le_of_lt Nat.and_le_left ha;rw[Nat.testBit_and,mY _ _ _ ha,mY _ _ _ hb,mY _ _ _ h]
 split<;>rw[Nat.testBit_and]
theorem or_cons (x y:Nat)(ha:a<256)(hb:b<256):(a+256*x)|||(b+256*y)=(a|||b)+256*(x|||y):=by
 apply Nat.eq_of_testBit_eq;intro j
 have h:a|||b<256:=Nat.or_lt_two_pow (n:=8) ha hb
 rw[Nat.testBit_or,mY _ _ _ ha,mY _ _ _ hb,mY _ _ _ h]
 split<;>rw[Nat.testBit_or]
theorem YH (x y:Nat)(ha:a<256)(hb:b<256):(a+256*x)^^^(b+256*y)=(a^^^b)+256*(x^^^y):=by
 apply Nat.eq_of_testBit_eq;intro j;have h:a^^^b<256:=Nat.xor_lt_two_pow (n:=8) ha hb;rw[Nat.testBit_xor,mY _ _ _ ha,mY _ _ _ hb,mY _ _ _ h]
 split<;>rw[Nat.testBit_xor]
theorem Ab:∀(l m:List Nat),l.length=m.length→Bytes l→Bytes m→w8 l &&& w8 m=w8 (List.zipWith (· &&& ·) l m)
 | [],[],_,_,_=>by simp[w8]
 |a::l,b::m,h,hl,hm=>by
  simp only[w8,List.zipWith_cons_cons];rw[and_cons _ _ hl.head hm.head,Ab l m (by simpa using h) hl.tail hm.tail]
theorem Tz:∀(l m:List Nat),l.length=m.length→Bytes l→Bytes m→w8 l|||w8 m=w8 (List.zipWith (·|||·) l m)
 | [],[],_,_,_=>by simp[w8]
 |a::l,b::m,h,hl,hm=>by
  simp only[w8,List.zipWith_cons_cons];rw[or_cons _ _ hl.head hm.head,Tz l m (by simpa using h) hl.tail hm.tail]
theorem VJ:∀(l m:List Nat),l.length=m.length→Bytes l→Bytes m→w8 l^^^w8 m=w8 (List.zipWith (·^^^·) l m)
 | [],[],_,_,_=>by simp[w8]
 |a::l,b::m,h,hl,hm=>by
  simp only[w8,List.zipWith_cons_cons];rw[YH _ _ hl.head hm.head,VJ l m (by simpa using h) hl.tail hm.tail]
theorem VK:∀(l m:List Nat),l.length=m.length→w8 l+w8 m=w8 (List.zipWith (·+·) l m)
 | [],[],_=>by simp[w8]
 |a::l,b::m,h=>by
  simp only[w8,List.zipWith_cons_cons];rw[←VK l m (by simpa using h)];omega
theorem KG {f:Nat→Nat→Nat}(hf:∀a b,a<256→b<256→f a b<256):∀{l m:List Nat},Bytes l→Bytes m→Bytes (List.zipWith f l m)
 | [],_,_,_=>by simp[Bytes]
 |_::_,[],_,_=>by simp[Bytes]
 |a::l,b::m,hl,hm=>fun x hx=>by
  rw[List.zipWith_cons_cons,List.mem_cons]at hx;rcases hx with rfl|hx
  ·exact hf _ _ hl.head hm.head
  ·exact KG hf hl.tail hm.tail x hx
theorem CV {f:Nat→Nat}(hf:∀a,a<256→f a<256)(hl:Bytes l):Bytes (l.map f):=fun x hx=>by
 obtain⟨a,ha,rfl⟩:=List.mem_map.1 hx;exact hf a (hl a ha)
theorem xA (f:Nat→Nat→Nat)(b:Nat):∀(l:List Nat),List.zipWith f l (List.replicate l.length b)=l.map fun a=>f a b
 | []=>rfl
 |a::t=>by rw[List.length_cons,List.replicate_succ,List.zipWith_cons_cons,xA f b t];rfl
theorem qX {n:Nat}(h:b<256):Bytes (List.replicate n b):=fun x hx=>by rw[List.mem_replicate]at hx;rw[hx.2];exact h
theorem acX (b:Nat):w8 (List.replicate 8 b)=72340172838076673*b:=by simp[w8,List.replicate];omega
theorem CW:∀(l:List Nat),Bytes l→w8 (l.map fun a=>255-a)=256^l.length-1-w8 l
 | [],_=>by simp[w8]
 |a::t,h=>by
  have h1:=Nv t h.tail;have h2:=h.head;simp only[List.map_cons,w8,List.length_cons,CW t h.tail,Nat.pow_succ];omega
theorem KH:(9259542123273814144:Nat)=w8 (List.replicate 8 128):=by simp[w8,List.replicate]
theorem NR:(9187201950435737471:Nat)=w8 (List.replicate 8 127):=by simp[w8,List.replicate]
def eB (a:Nat):Nat:=if a<128 then 0 else 128
theorem abJ (a:Nat)(h:a<256):a &&& 128=eB a:=by
 have:∀a:Fin 256,a.val &&& 128=eB a.val:=by decide+kernel
 exact this ⟨a,h⟩
theorem abK (h:Bytes l)(hl:l.length=8):w8 l &&& 9259542123273814144=w8 (l.map eB):=by
 rw[KH,←hl,Ab l _ (by simp) h (qX (by omega)),xA];congr 1;exact List.map_congr_left fun a ha=>abJ a (h a ha)
def kX (b a:Nat):Nat:=if a=b then 128 else 0
theorem VL (x:Nat)(h:x<256):(255-(((x &&& 127)+127)|||x)) &&& 128=if x=0 then 128 else 0:=by
 have:∀a:Fin 256,(255-(((a.val &&& 127)+127)|||a.val)) &&& 128=if a.val=0 then 128 else 0:=by decide+kernel
 exact this ⟨x,h⟩
theorem YI (h:Bytes l)(hl:l.length=8)(b:Nat)(hb:b<256):
  (18446744073709551615-((((w8 l^^^w8 (List.replicate 8 b)) &&& 9187201950435737471)+9187201950435737471)|||(w8 l^^^w8 (List.replicate 8 b)))) &&& 9259542123273814144=w8 (l.map (kX b)):=by
 have hx:w8 l^^^w8 (List.replicate 8 b)=w8 (l.map fun a=>a^^^b):=by rw[←hl,VJ l _ (by simp) h (qX hb),xA]
 rw[hx]
 have hB:Bytes (l.map fun a=>a^^^b):=fun x hxm=>by
  obtain⟨a,ha,rfl⟩:=List.mem_map.1 hxm;exact Nat.xor_lt_two_pow (n:=8) (h a ha) hb
 have hlx:(l.map fun a=>a^^^b).length=8:=by simpa using hl
 obtain⟨m,hm⟩:∃m,m=l.map fun a=>a^^^b:=⟨_,rfl⟩;rw[←hm]at hB hlx⊢
 have e1:w8 m &&& 9187201950435737471=w8 (m.map fun a=>a &&& 127):=by rw[NR,←hlx,Ab m _ (by simp) hB (qX (by omega)),xA]
 have hB1:Bytes (m.map fun a=>(a &&& 127)+127):=CV (fun a _=>by have:=Nat.and_le_right (n:=a) (m:=127);omega) hB
 have e2:w8 (m.map fun a=>a &&& 127)+9187201950435737471=w8 (m.map fun a=>(a &&& 127)+127):=by
  rw[NR,show List.replicate 8 127=List.replicate (m.map fun a=>a &&& 127).length 127 by simp[hlx],VK _ _ (by simp),xA,List.map_map];rfl
 rw[e1,e2,Tz _ m (by simp) hB1 hB]
 have e3:List.zipWith (·|||·) (m.map fun a=>(a &&& 127)+127) m=m.map fun a=>((a &&& 127)+127)|||a:=by
  clear hB hlx hm e1 hB1 e2 hx
  induction m with
  |nil=>rfl
  |cons a t ih=>simp[ih]
 rw[e3];have hB2:Bytes (m.map fun a=>((a &&& 127)+127)|||a):=CV (fun a ha=>Nat.or_lt_two_pow (n:=8) (by have:=Nat.and_le_right (n:=a) (m:=127);omega) ha) hB;have e4:=CW _ hB2;rw[List.length_map,hlx,List.map_map]at e4;rw[show(18446744073709551615:Nat)=256^8-1 by decide,←e4]
 have hB3:Bytes (m.map ((fun a=>255-a)∘fun a=>((a &&& 127)+127)|||a)):=fun x hxm=>by
  obtain⟨a,ha,rfl⟩:=List.mem_map.1 hxm;show 255-_<256;omega
 rw[KH,show List.replicate 8 128=List.replicate (m.map ((fun a=>255-a)∘fun a=>((a &&& 127)+127)|||a)).length 128 by simp[hlx],Ab _ _ (by simp) hB3 (qX (by omega)),xA,List.map_map,hm,List.map_map];congr 1;refine List.map_congr_left fun a ha=> ?_;show(255-((((a^^^b) &&& 127)+127)|||(a^^^b))) &&& 128=kX b a;rw[VL _ (Nat.xor_lt_two_pow (n:=8) (h a ha) hb)];unfold kX;by_cases hab:a=b
 ·subst hab;simp
 ·rw[if_neg hab,if_neg];intro h0;refine hab (Nat.eq_of_testBit_eq fun j=> ?_)
  have h1:(a^^^b).testBit j=false:=by rw[h0];exact Nat.zero_testBit j
  rw[Nat.testBit_xor]at h1;revert h1
  cases a.testBit j<;>cases b.testBit j<;>simp
theorem RJ:∀(l:List Nat) (i:Nat),Bytes l→w8 l/256^i % 256=l.getD i 0
 | [],i,_=>by simp[w8]
 |a::t,0,h=>by have:=h.head;simp[w8];omega
 |a::t,i+1,h=>by
  have:=h.head;have ih:=RJ t i h.tail;rw[List.getD_cons_succ,←ih,w8,Nat.pow_succ,Nat.mul_comm (256^i) 256,←Nat.div_div_eq_div_mul,show(a+256*w8 t)/256=w8 t by omega]
def bW (i:Nat):List Nat→List Nat
 | []=> []
 |b::t=>if b=128 then i::bW (i+1) t else bW (i+1) t
end Go.Proofs.YtjfgpnapccdnlaaGreatDoor.dF

/-! What the program reckons with words of lanes. No program in sight. -/
namespace Go.Proofs.YtjfgpnapccdnlaaGreatDoor.dF
open Go
variable {b i : Nat} {l : List Nat}
theorem tJ (a b:Nat)(ha:a<18446744073709551616)(hb:b<18446744073709551616):
  bits .andNot .u64 (a:Int) (b:Int)=((a &&& (18446744073709551615-b):Nat):Int):=by
 have hx:a &&& (18446744073709551615-b)<2^64:=Nat.and_lt_two_pow _ (by omega)
 have h1:(BitVec.ofInt 64 (a:Int)).toNat=a:=by
  rw[BitVec.ofInt_natCast,BitVec.toNat_ofNat];exact Nat.mod_eq_of_lt (by omega)
 have h2:(BitVec.ofInt 64 (b:Int)).toNat=b:=by
  rw[BitVec.ofInt_natCast,BitVec.toNat_ofNat];exact Nat.mod_eq_of_lt (by omega)
 show IntKind.u64.wrap ((BitVec.ofInt 64 (a:Int) &&& ~~~ BitVec.ofInt 64 (b:Int)).toNat:Int)=_;rw[BitVec.toNat_and,BitVec.toNat_not,h1,h2,IntKind.wrap_u64]
 have:(2:Nat)^64-1-b=18446744073709551615-b:=by omega
 rw[this];omega
theorem YJ (a:Nat)(ha:a<18446744073709551616):18446744073709551615^^^a=18446744073709551615-a:=by
 have h1:(BitVec.ofNat 64 a).toNat=a:=by rw[BitVec.toNat_ofNat];exact Nat.mod_eq_of_lt (by omega)
 have h2:=congrArg BitVec.toNat (BitVec.not_def (x:=BitVec.ofNat 64 a));rw[BitVec.toNat_xor,BitVec.toNat_not,BitVec.toNat_allOnes,h1]at h2
 have:(2:Nat)^64-1=18446744073709551615:=by decide
 rw[this]at h2;exact h2.symm
theorem abL:IntKind.u64.max=((18446744073709551615:Nat):Int):=by decide
theorem Fb (a:Nat)(ha:a<18446744073709551616):bits .xor .u64 IntKind.u64.max (a:Int)=((18446744073709551615-a:Nat):Int):=by
 rw[abL,bits_xor_u64_nat _ _ (by decide) ha,YJ a ha]
theorem xM {n:Nat}(_h:n<18446744073709551616):IntKind.u64.wrap (n:Int)=(n:Int):=by rw[IntKind.wrap_u64];omega
def uh (b:Nat):Nat:=w8 (List.replicate 8 b)
theorem abM (h:b<256):uh b<18446744073709551616:=qW (qX h) (by simp)
theorem TA (_:b<256):(72340172838076673:Int)*(b:Int)=((uh b:Nat):Int):=by
 unfold uh;rw[acX];omega
theorem YK (hb:Bytes l)(hl:l.length=8):bits .and .u64 ((w8 l:Nat):Int) 9259542123273814144=((w8 (l.map eB):Nat):Int):=by
 rw[←abK hb hl];exact bits_and_u64_nat _ _ (qW hb hl) (by decide)
theorem VN (hb:Bytes l)(hl:l.length=8)(h8:b<256):
  bits .and .u64 (bits .xor .u64 IntKind.u64.max (bits .or .u64 (IntKind.u64.wrap (bits .andNot .u64 (bits .xor .u64 ((w8 l:Nat):Int) ((uh b:Nat):Int)) 9259542123273814144+9187201950435737471)) (bits .xor .u64 ((w8 l:Nat):Int) ((uh b:Nat):Int)))) 9259542123273814144=
   ((w8 (l.map (kX b)):Nat):Int):=by
 have aeP:=qW hb hl;have hr:=abM h8;rw[bits_xor_u64_nat _ _ aeP hr]
 have hx:w8 l^^^uh b<18446744073709551616:=by
  have:=Nat.xor_lt_two_pow (n:=64) (x:=w8 l) (y:=uh b) (by omega) (by omega);omega
 obtain⟨x,hxe⟩:∃x,x=w8 l^^^uh b:=⟨_,rfl⟩;rw[←hxe]at hx⊢;have e1:bits .andNot .u64 (x:Int) 9259542123273814144=((x &&& 9187201950435737471:Nat):Int):=tJ x 9259542123273814144 hx (by decide);rw[e1];have hand:x &&& 9187201950435737471≤9187201950435737471:=Nat.and_le_right
 have e2:((x &&& 9187201950435737471:Nat):Int)+9187201950435737471=(((x &&& 9187201950435737471)+9187201950435737471:Nat):Int):=by omega
 rw[e2,xM (by omega),bits_or_u64_nat _ _ (by omega) hx]
 have hor:((x &&& 9187201950435737471)+9187201950435737471)|||x<18446744073709551616:=by
  have:=Nat.or_lt_two_pow (n:=64) (x:=(x &&& 9187201950435737471)+9187201950435737471) (y:=x) (by omega) (by omega);omega
 rw[Fb _ hor];have e3:=bits_and_u64_nat (18446744073709551615-(((x &&& 9187201950435737471)+9187201950435737471)|||x)) 9259542123273814144 (by omega) (by decide);rw[←YI hb hl b h8];unfold uh at hxe;rw[←hxe];exact e3
theorem YL (hb:Bytes l)(i:Nat):((w8 l:Nat):Int)/2^(8*i) % 256=((l.getD i 0:Nat):Int):=by
 rw[←RJ l i hb]
 have:(2:Nat)^(8*i)=256^i:=by rw[Nat.pow_mul]
 have e:((2:Int)^(8*i))=((256^i:Nat):Int):=by rw[←this];simp
 rw[e];omega
theorem oG {a:Nat}(h:a<256):a &&& 255=a:=by
 have:=Nat.and_two_pow_sub_one_eq_mod a 8;rw[show(255:Nat)=2^8-1 by decide,this];omega
theorem eight (hl:l.length=8):∃a0 a1 a2 a3 a4 a5 a6 a7,l=[a0,a1,a2,a3,a4,a5,a6,a7]:=by
 match l,hl with
 | [a0,a1,a2,a3,a4,a5,a6,a7],_=>exact⟨a0,a1,a2,a3,a4,a5,a6,a7,rfl⟩
theorem YM (hb:Bytes l)(hl:l.length=8)(hi:i<8)(h8:b<256):
  (w8 l &&& (18446744073709551615-255*256^i))|||(b*256^i)=w8 (l.set i b):=by
 have hz:∀x,x*256^i=w8 ((List.replicate 8 0).set i x):=by
  intro x
  have:i=0∨i=1∨i=2∨i=3∨i=4∨i=5∨i=6∨i=7:=by omega
  rcases this with rfl|rfl|rfl|rfl|rfl|rfl|rfl|rfl<;>simp[w8,List.replicate]<;>omega
 have hB0:∀x,x<256→Bytes ((List.replicate 8 0).set i x):=fun x hx y hy=>by
  rcases List.mem_or_eq_of_mem_set hy with hy|rfl
  ·rw[(List.mem_replicate.1 hy).2];omega
  ·exact hx
 have hn:18446744073709551615-255*256^i=w8 (((List.replicate 8 0).set i 255).map fun a=>255-a):=by
  rw[CW _ (hB0 255 (by omega)),hz 255];simp
 have hBn:Bytes (((List.replicate 8 0).set i 255).map fun a=>255-a):=fun y hy=>by
  obtain⟨a,_,rfl⟩:=List.mem_map.1 hy;omega
 rw[hn,hz b,Ab l _ (by simp[hl]) hb hBn];have hBa:Bytes (List.zipWith (· &&& ·) l (((List.replicate 8 0).set i 255).map fun a=>255-a)):=KG (fun a b ha _=>Nat.lt_of_le_of_lt Nat.and_le_left ha) hb hBn;rw[Tz _ _ (by simp[hl]) hBa (hB0 b h8)];congr 1;obtain⟨a0,a1,a2,a3,a4,a5,a6,a7,rfl⟩:=eight hl;have b0:=oG (hb a0 (by simp));have b1:=oG (hb a1 (by simp));have b2:=oG (hb a2 (by simp));have b3:=oG (hb a3 (by simp));have b4:=oG (hb a4 (by simp));have b5:=oG (hb a5 (by simp));have b6:=oG (hb a6 (by simp));have b7:=oG (hb a7 (by simp))
 have:i=0∨i=1∨i=2∨i=3∨i=4∨i=5∨i=6∨i=7:=by omega
 rcases this with rfl|rfl|rfl|rfl|rfl|rfl|rfl|rfl<;>simp[List.replicate,b0,b1,b2,b3,b4,b5,b6,b7]
theorem YN (hb:Bytes l)(hl:l.length=8)(hi:i<8)(h8:b<256):
  bits .or .u64 (bits .andNot .u64 ((w8 l:Nat):Int) (IntKind.u64.wrap (255*2^(8*i)))) (IntKind.u64.wrap ((b:Int)*2^(8*i)))=((w8 (l.set i b):Nat):Int):=by
 have e:((2:Int)^(8*i))=((256^i:Nat):Int):=by
  have:(2:Nat)^(8*i)=256^i:=by rw[Nat.pow_mul]
  rw[←this];simp
 have hp:256^i≤256^7:=Nat.pow_le_pow_right (by omega) (by omega)
 have h7:(256:Nat)^7=72057594037927936:=by decide
 rw[h7]at hp;have hbp:b*256^i≤255*256^i:=Nat.mul_le_mul_right _ (by omega)
 have e1:(255:Int)*2^(8*i)=((255*256^i:Nat):Int):=by rw[e];simp
 have e2:(b:Int)*2^(8*i)=((b*256^i:Nat):Int):=by rw[e];simp
 rw[e1,e2,xM (by omega),xM (by omega),tJ _ _ (qW hb hl) (by omega)];have hand:w8 l &&& (18446744073709551615-255*256^i)<18446744073709551616:=Nat.lt_of_le_of_lt Nat.and_le_left (qW hb hl);rw[bits_or_u64_nat _ _ hand (by omega),YM hb hl hi h8]
theorem Ac:∀(l:List Nat),w8 l=0↔∀b∈l,b=0
 | []=>by simp[w8]
 |a::t=>by
  have:=Ac t;simp only[w8,List.mem_cons,forall_eq_or_imp];rw[←this];omega
def Marks (l:List Nat):Prop:=∀b∈l,b=0∨b=128
theorem Marks.bytes (h:Marks l):Bytes l:=fun b hb=>by rcases h b hb with rfl|rfl<;>omega
theorem qY (l:List Nat):Marks (l.map eB):=fun b hb=>by
 obtain⟨a,_,rfl⟩:=List.mem_map.1 hb
 unfold eB;split<;>simp
theorem Gi (b:Nat)(l:List Nat):Marks (l.map (kX b)):=fun x hx=>by
 obtain⟨a,_,rfl⟩:=List.mem_map.1 hx
 unfold kX;split<;>simp
theorem uS (h:Marks l):l.map eB=l:=by
 conv=>rhs;rw[←List.map_id l]
 exact List.map_congr_left fun b hb=>by rcases h b hb with rfl|rfl<;>rfl
def firstM (l:List Nat):Option Nat:=l.findIdx? (·==128)
def mg:List Nat→List Nat
 | []=> []
 |b::t=>if b=128 then 0::t else b::mg t
theorem CX:∀l,(mg l).length=l.length
 | []=>rfl
 |b::t=>by unfold mg;split<;>simp[CX t]
theorem Ia:∀{l:List Nat},Marks l→Marks (mg l)
 | [],h=>h
 |b::t,h=>by
  have ht:Marks t:=fun x hx=>h x (by simp[hx]);unfold mg;split
  ·intro x hx;rcases List.mem_cons.1 hx with rfl|hx
   ·exact .inl rfl
   ·exact ht x hx
  ·intro x hx;rcases List.mem_cons.1 hx with rfl|hx
   ·exact h x (by simp)
   ·exact Ia ht x hx
theorem NS:∀{l:List Nat},Marks l→w8 l≠0→w8 l &&& (w8 l-1)=w8 (mg l)
 | [],_,h=>absurd rfl h
 |b::t,h,h0=>by
  have ht:Marks t:=fun x hx=>h x (by simp[hx]);unfold mg;rcases h b (by simp)with rfl|rfl
  ·rw[if_neg (by omega)];simp only[w8]at h0⊢
   have hpos:w8 t≠0:=by omega
   have e:0+256*w8 t-1=255+256*(w8 t-1):=by omega
   rw[e,and_cons _ _ (by omega) (by omega),NS ht hpos];rfl
  ·rw[if_pos rfl];simp only[w8]at h0⊢
   have e:128+256*w8 t-1=127+256*w8 t:=by omega
   rw[e,and_cons _ _ (by omega) (by omega),Nat.and_self];rfl
theorem YO (h:Marks l)(hl:l.length=8)(h0:w8 l≠0):bits .and .u64 ((w8 l:Nat):Int) (IntKind.u64.wrap (((w8 l:Nat):Int)-1))=((w8 (mg l):Nat):Int):=by
 have h64:=qW h.bytes hl
 have e:((w8 l:Nat):Int)-1=((w8 l-1:Nat):Int):=by omega
 rw[e,xM (by omega),bits_and_u64_nat _ _ h64 (by omega),NS h h0]
theorem Gj (h:firstM l=some i):i<l.length:=(List.findIdx?_eq_some_iff_getElem.1 h).1
theorem pI (h:Marks l):w8 l=0↔firstM l=none:=by
 rw[Ac];unfold firstM;rw[List.findIdx?_eq_none_iff];constructor
 ·intro h1 x hx;rw[h1 x hx];rfl
 ·intro h1 x hx;rcases h x hx with h2|h2
  ·exact h2
  ·have:=h1 x hx;rw[h2]at this;simp at this
end Go.Proofs.YtjfgpnapccdnlaaGreatDoor.dF

/-! The least marked lane, by the table of bits. No program in sight. -/
namespace Go.Proofs.YtjfgpnapccdnlaaGreatDoor.dF
open Go
variable {l : List Nat} {i : Nat}
theorem and_not_self:∀(l:List Nat),Bytes l→w8 l &&& (256^l.length-1-w8 l)=0
 |l,h=>by
  rw[←CW l h]
  have hB:Bytes (l.map fun a=>255-a):=fun y hy=>by
   obtain⟨a,_,rfl⟩:=List.mem_map.1 hy;omega
  rw[Ab l _ (by simp) h hB,Ac]
  have H:∀a:Fin 256,a.val &&& (255-a.val)=0:=by decide+kernel
  have:∀(l:List Nat),Bytes l→∀b∈List.zipWith (· &&& ·) l (l.map fun a=>255-a),b=0:=by
   intro l
   induction l with
   |nil=>intro _ b hb;simp at hb
   |cons a t ih=>
    intro hl b hb;rw[List.map_cons,List.zipWith_cons_cons]at hb;rcases List.mem_cons.1 hb with rfl|hb
    ·exact H ⟨a,hl.head⟩
    ·exact ih hl.tail b hb
  exact this l h
theorem RL:∀{l:List Nat} {i:Nat},Marks l→firstM l=some i→w8 l &&& (256^l.length-w8 l)=128*256^i
 | [],_,_,h=>by simp[firstM]at h
 |b::t,i,hm,h=>by
  have ht:Marks t:=fun x hx=>hm x (by simp[hx]);have h1:=Nv t ht.bytes;unfold firstM at h;rw[List.findIdx?_cons]at h;rcases hm b (by simp)with rfl|rfl
  ·simp only[show((0:Nat)==128)=false from rfl,Bool.false_eq_true,if_false]at h;obtain⟨k,hk,rfl⟩:=Option.map_eq_some_iff.1 h;have ih:=RL ht hk;simp only[w8,List.length_cons,Nat.pow_succ]
   have e:256^t.length*256-(0+256*w8 t)=0+256*(256^t.length-w8 t):=by omega
   rw[e,and_cons _ _ (by omega) (by omega),ih];simp;omega
  ·simp only[show((128:Nat)==128)=true from rfl,if_true]at h
   injection h with h
   subst h;simp only[w8,List.length_cons,Nat.pow_succ]
   have e:256^t.length*256-(128+256*w8 t)=128+256*(256^t.length-1-w8 t):=by omega
   rw[e,and_cons _ _ (by omega) (by omega),and_not_self t ht.bytes];rfl
def pJ (i:Nat):Nat:=128*256^i*285870213051353865 % 18446744073709551616/288230376151711744
theorem RN (hm:Marks l)(hl:l.length=8)(h:firstM l=some i):
  (IntKind.u64.wrap (bits .and .u64 ((w8 l:Nat):Int) (IntKind.u64.wrap (-((w8 l:Nat):Int)))*285870213051353865)/288230376151711744).toNat=pJ i:=by
 have h64:=qW hm.bytes hl
 have h0:w8 l≠0:=fun h0=>by rw[(pI hm).1 h0]at h;cases h
 have hn:IntKind.u64.wrap (-((w8 l:Nat):Int))=((18446744073709551616-w8 l:Nat):Int):=by rw[IntKind.wrap_u64];omega
 have e:=RL hm h;rw[hl,show(256:Nat)^8=18446744073709551616 by decide]at e;rw[hn,bits_and_u64_nat _ _ h64 (by omega),e,IntKind.wrap_u64];unfold pJ
 have e2:((128*256^i:Nat):Int)*285870213051353865 % 18446744073709551616/288230376151711744=((128*256^i*285870213051353865 % 18446744073709551616/288230376151711744:Nat):Int):=by
  simp
 rw[e2,Int.toNat_natCast]
theorem YP (i:Nat):pJ i<64:=by unfold pJ;omega
theorem RO (hm:Marks l)(hl:l.length=8)(h:firstM l=some i):
  IntKind.u64.wrap (bits .and .u64 ((w8 l:Nat):Int) (IntKind.u64.wrap (-((w8 l:Nat):Int)))*285870213051353865)/288230376151711744=((pJ i:Nat):Int):=by
 rw[←RN hm hl h]
 have:0≤IntKind.u64.wrap (bits .and .u64 ((w8 l:Nat):Int) (IntKind.u64.wrap (-((w8 l:Nat):Int)))*285870213051353865)/288230376151711744:=by rw[IntKind.wrap_u64];omega
 omega
theorem Ib:∀{l:List Nat} {i:Nat} (s:Nat),firstM l=some i→bW s l=(s+i)::bW s (mg l)
 | [],_,_,h=>by simp[firstM]at h
 |b::t,i,s,h=>by
  unfold firstM at h;rw[List.findIdx?_cons]at h;by_cases hb:b=128
  ·subst hb;simp only[show((128:Nat)==128)=true from rfl,if_true]at h
   injection h with h
   subst h;simp[bW,mg]
  ·rw[if_neg (by simpa using hb)]at h;obtain⟨k,hk,rfl⟩:=Option.map_eq_some_iff.1 h;have ih:=Ib (s+1) hk;simp only[bW,mg,if_neg hb];rw[ih,show s+1+k=s+(k+1) by omega]
theorem Ic:∀{l:List Nat} (s:Nat),firstM l=none→bW s l=[]
 | [],_,_=>rfl
 |b::t,s,h=>by
  unfold firstM at h;rw[List.findIdx?_cons]at h;by_cases hb:b=128
  ·rw[if_pos (by simpa using hb)]at h;cases h
  ·rw[if_neg (by simpa using hb)]at h;have hk:firstM t=none:=Option.map_eq_none_iff.1 h;simp only[bW,if_neg hb];exact Ic (s+1) hk
theorem CY:∀(l:List Nat) (s:Nat),(bW s l).length≤l.length
 | [],_=>Nat.le_refl _
 |b::t,s=>by
  have:=CY t (s+1);unfold bW
  split<;>simp<;>omega
theorem RP:∀{l:List Nat},Marks l→w8 l≠0→w8 (mg l)<w8 l
 | [],_,h=>absurd rfl h
 |b::t,h,h0=>by
  have ht:Marks t:=fun x hx=>h x (by simp[hx]);rcases h b (by simp)with rfl|rfl
  ·simp only[w8,mg,show((0:Nat)=128)=False by simp,if_false]at h0⊢;have:=RP ht (by omega);omega
  ·simp[w8,mg]
theorem QO (h:Marks l)(h0:w8 l≠0):∃i,firstM l=some i:=by
 cases hf:firstM l with
 |some i=>exact⟨i,rfl⟩
 |none=>exact absurd ((pI h).2 hf) h0
end Go.Proofs.YtjfgpnapccdnlaaGreatDoor.dF
