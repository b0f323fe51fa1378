/- MergePlain's plain law. No statement of the claim. -/
import Derived.Test.YtbfpfgfgfjhpfaaGreatDoorRfH
import Derived.Test.YtbfpfgfgfjhpfaaGreatDoorMixA
namespace Go.Proofs.YtbfpfgfgfjhpfaaGreatDoor
open Go.RowKit dP zW
variable {O a b l out t : PL} {M k v : Nat} {p : Int}
theorem kQ (q:Nat×Nat)(l:PL)(x:Nat):aS (q::l) x=if q.1=x then some q.2 else aS l x:=by
 unfold aS;by_cases h:q.1=x
 ·rw[List.find?_cons_of_pos (by simpa using h),if_pos h];rfl
 ·rw[List.find?_cons_of_neg (by simpa using h),if_neg h]
theorem Qa:∀{l:PL} {i:Nat} {q:Nat×Nat} (val:Nat),l[i]?=some q→(∀k,k<i→∀q',l[k]?=some q'→q'.1≠q.1)→∀x,aS (l.set i (q.1,val)) x=if x=q.1 then some val else aS l x
 | [],_,_,_,h,_,_=>by cases h
 |y::l,0,q,val,h,_,x=>by
  obtain rfl:y=q:=by simpa using h
  rw[List.set_cons_zero,kQ,kQ];by_cases hx:x=y.1
  ·rw[if_pos hx.symm,if_pos hx]
  ·rw[if_neg (fun e=>hx e.symm),if_neg hx,if_neg (fun e=>hx e.symm)]
 |y::l,i+1,q,val,h,hno,x=>by
  have h0:y.1≠q.1:=hno 0 (by omega) y rfl;have ih:=Qa (l:=l) (i:=i) (q:=q) val (by simpa using h) (fun k hk q' hq'=>hno (k+1) (by omega) q' (by simpa using hq')) x;rw[List.set_cons_succ,kQ,kQ,ih];by_cases hy:y.1=x
  ·rw[if_pos hy,if_pos hy,if_neg (fun e=>h0 (hy.trans e))]
  ·rw[if_neg hy,if_neg hy]
theorem LY:∀{l:PL} {k:Nat} (v:Nat),(∀q∈l,q.1≠k)→∀x,aS (l++[(k,v)]) x=if x=k then some v else aS l x
 | [],k,v,_,x=>by
  rw[List.nil_append,kQ];by_cases hx:x=k
  ·rw[if_pos hx.symm,if_pos hx]
  ·rw[if_neg (fun e=>hx e.symm),if_neg hx]
 |y::l,k,v,hn,x=>by
  have ih:=LY (l:=l) (k:=k) v (fun q hq=>hn q (List.mem_cons_of_mem _ hq)) x;rw[List.cons_append,kQ,kQ,ih];have h0:y.1≠k:=hn y List.mem_cons_self;by_cases hy:y.1=x
  ·rw[if_pos hy,if_pos hy,if_neg (fun e=>h0 (hy.trans e))]
  ·rw[if_neg hy,if_neg hy]
theorem Qb (h:∃q∈l,q.1=k):∃(i:Nat) (q:Nat×Nat),l[i]?=some q∧q.1=k∧∀j,j<i→∀q':Nat×Nat,l[j]?=some q'→q'.1≠k:=by
 induction l with
 |nil=>obtain⟨q,hq,_⟩:=h;cases hq
 |cons y l ih=>
  by_cases hy:y.1=k
  ·exact⟨0,y,rfl,hy,fun j hj=>by omega⟩
  ·obtain⟨q,hq,hk⟩:=h
   have hq':q∈l:=by
    rcases List.mem_cons.1 hq with rfl|h1
    ·exact absurd hk hy
    ·exact h1
   obtain⟨i,q1,h1,h2,h3⟩:=ih ⟨q,hq',hk⟩;refine⟨i+1,q1,by simpa using h1,h2,fun j hj q' hj'=> ?_⟩
   cases j with
   |zero=>
    obtain rfl:y=q':=by simpa using hj'
    exact hy
   |succ j=>exact h3 j (by omega) q' (by simpa using hj')
theorem zB (hM:l.length<M)(x:Nat):aS (gU M l k v) x=if x=k then some v else aS l x:=by
 by_cases h:∃q∈l,q.1=k
 ·obtain⟨i,q,h1,rfl,h3⟩:=Qb h;rw[xu h1 rfl h3];exact Qa v h1 h3 x
 ·have hk:∀q∈l,q.1≠k:=fun q hq e=>h ⟨q,hq,e⟩;rw[zx hk,if_neg (by omega)];exact LY v hk x
theorem xw (hn:(l.map Prod.fst).Nodup):((gU M l k v).map Prod.fst).Nodup:=by
 by_cases h:∃q∈l,q.1=k
 ·obtain⟨i,q,h1,rfl,h3⟩:=Qb h;rw[xu h1 rfl h3]
  have:(l.set i (q.1,v)).map Prod.fst=l.map Prod.fst:=by
   rw[List.map_set];refine List.ext_getElem? fun j=> ?_;by_cases hj:j=i
   ·subst hj;have hl:=(List.getElem?_eq_some_iff.1 h1).1;rw[List.getElem?_set_self (by simpa using hl),List.getElem?_map,h1];rfl
   ·rw[List.getElem?_set_ne (fun e=>hj e.symm)]
  rw[this];exact hn
 ·have hk:∀q∈l,q.1≠k:=fun q hq e=>h ⟨q,hq,e⟩;rw[zx hk];split
  ·exact hn
  ·rw[List.map_append,List.nodup_append];refine⟨hn,by simp,fun a ha b hb=> ?_⟩;obtain⟨q,hq,rfl⟩:=List.mem_map.1 ha;simp only[List.map_cons,List.map_nil,List.mem_singleton]at hb;rw[hb];exact hk q hq
theorem aak (hO:eY O)(k:Nat):lq O k=gD O k:=by
 induction O with
 |nil=>rfl
 |cons y l ih=>
  obtain⟨h1,h2⟩:=List.pairwise_cons.1 hO;have ih':=ih h2;unfold lq gD at ih'⊢;by_cases hy:y.1<k
  ·rw[List.takeWhile_cons_of_pos (by simpa using hy),List.length_cons,ih',List.countP_cons_of_pos (by simpa using hy)]
  ·rw[List.takeWhile_cons_of_neg (by simpa using hy),List.countP_cons_of_neg (by simpa using hy)];symm;rw[List.length_nil,List.countP_eq_zero];intro e he;have:=h1 e he;simp;omega
theorem aal (hO:eY O){q:Nat×Nat}(hn:aS O q.1=none):zU O q=gJ O q.1 q.2:=by
 have hp:om O q.1=false:=by rw[zX hO,hn];rfl
 unfold zU gJ;rw[hp,aak hO];rfl
theorem LZ:∀(l t:PL),eY t→(l.map Prod.fst).Nodup→(∀q∈l,aS t q.1=none)→l.foldl zU t=l.foldl (fun t p=>gJ t p.1 p.2) t
 | [],_,_,_,_=>rfl
 |q::l,t,ht,hn,hd=>by
  rw[List.foldl_cons,List.foldl_cons,aal ht (hd q List.mem_cons_self)];rw[List.map_cons,List.nodup_cons]at hn;refine LZ l _ (j6 ht q.1 q.2) hn.2 fun e he=> ?_;rw[iX];intro p hp hk;rcases(oN ht).1 hp with rfl|⟨h1,h2⟩
  ·exact hn.1 (by rw[show q.1=e.1 from hk];exact List.mem_map_of_mem (f:=Prod.fst) he)
  ·have:=hd e (List.mem_cons_of_mem _ he);rw[iX]at this;exact this p h1 hk
theorem aam (hn:(l.map Prod.fst).Nodup):oh l=bF l:=LZ l [] List.Pairwise.nil hn fun q _=>rfl
theorem J8 {o o':Option Nat}(h:∀u,o=some u↔o'=some u):o=o':=by
 cases o with
 |none=>
  cases o' with
  |none=>rfl
  |some u=>exact absurd ((h u).2 rfl) (by simp)
 |some u=>exact((h u).1 rfl).symm
theorem EA (ht:eY t)(k v x:Nat):aS (gJ t k v) x=if x=k then some v else aS t x:=by
 refine J8 fun u=> ?_;rw[gQ (j6 ht k v),oN ht];by_cases hx:x=k
 ·subst hx;rw[if_pos rfl];constructor
  ·rintro(h|⟨_,h⟩)
   ·injection h with _ h;rw[h]
   ·exact absurd rfl h
  ·intro h
   injection h with h
   exact .inl (by rw[h])
 ·rw[if_neg hx,gQ ht];constructor
  ·rintro(h|⟨h,_⟩)
   ·injection h with h;exact absurd h hx
   ·exact h
  ·intro h;exact .inr ⟨h,hx⟩
theorem L6 (M:Nat):∀(l t t':PL),eY t→(∀x,aS t' x=aS t x)→t'.length+l.length≤M→(t'.map Prod.fst).Nodup→(∀x,aS (l.foldl (fun t q=>gU M t q.1 q.2) t') x=aS (l.foldl (fun t p=>gJ t p.1 p.2) t) x)∧((l.foldl (fun t q=>gU M t q.1 q.2) t').map Prod.fst).Nodup
 | [],_,_,_,h,_,hn=>⟨h,hn⟩
 |q::l,t,t',ht,h,hl,hn=>by
  rw[List.foldl_cons,List.foldl_cons];rw[List.length_cons]at hl;have h1:=yO M t' q.1 q.2;refine L6 M l _ _ (j6 ht q.1 q.2) (fun x=> ?_) (by omega) (xw hn);rw[zB (by omega),EA ht,h]
theorem G9 (hl:l.length≤M):(∀x,aS (gG M l) x=aS (bF l) x)∧((gG M l).map Prod.fst).Nodup:=L6 M l [] [] List.Pairwise.nil (fun _=>rfl) (by simpa using hl) (by simp)
theorem XV (ht:eY t)(k x:Nat):aS (qY t k) x=if x=k then none else aS t x:=by
 refine J8 fun u=> ?_;rw[gQ (Ba ht k),Nc ht];by_cases hx:x=k
 ·subst hx;rw[if_pos rfl];constructor
  ·rintro⟨_,h⟩;exact absurd rfl h
  ·intro h;cases h
 ·rw[if_neg hx,gQ ht];exact⟨fun h=>h.1,fun h=>⟨h,hx⟩⟩
def EB (p:Int)(a b:PL)(x:Nat):Option Nat:=match aS a x,(if 1≤p∧p≤6 then aS b x else none)with
 |some x,none=>some x
 |none,some y=>some y
 |some x,some y=>if p=6 then none else some (qw p x y)
 |none,none=>none
theorem Qc (h:out.length<1073741824)(x:Nat):aS (fM p a b out k) x=if x=k then(EB p a b k).or (aS out x)else aS out x:=by
 unfold fM EB
 cases aS a k with
 |none=>
  cases(if 1≤p∧p≤6 then aS b k else none)with
  |none=>simp
  |some y=>simp only[zB h];split<;>rfl
 |some z=>
  cases(if 1≤p∧p≤6 then aS b k else none)with
  |none=>simp only[zB h];split<;>rfl
  |some y=>
   simp only;by_cases hp:p=6
   ·rw[if_pos hp,if_pos hp];simp
   ·rw[if_neg hp,if_neg hp,zB h];split<;>rfl
theorem zV (p:Int)(a b:PL):∀(L out:PL),out.length+L.length<1073741824→∀x,aS (bJ p a b L out) x=if(aS L x).isSome then(EB p a b x).or (aS out x)else aS out x
 | [],out,_,x=>rfl
 |q::L,out,h,x=>by
  rw[List.length_cons]at h;have h1:=F9 p a b out q.1;have ih:=zV p a b L (fM p a b out q.1) (by omega) x;unfold bJ at ih⊢;rw[List.foldl_cons,ih,Qc (by omega),kQ];by_cases hx:x=q.1
  ·subst hx;simp only[if_true,Option.isSome_some]
   split<;>cases EB p a b q.1<;>rfl
  ·have hx':¬q.1=x:=fun e=>hx e.symm;simp only[if_neg hx,if_neg hx']
theorem MS (h:(out.map Prod.fst).Nodup):((fM p a b out k).map Prod.fst).Nodup:=by
 unfold fM;split
 ·exact xw h
 ·exact xw h
 ·split
  ·exact h
  ·exact xw h
 ·exact h
theorem yP (p:Int)(a b:PL):∀(L out:PL),(out.map Prod.fst).Nodup→((bJ p a b L out).map Prod.fst).Nodup
 | [],_,h=>h
 |q::L,out,h=>yP p a b L _ (MS h)
theorem EC (ht:eY t)(q:Nat×Nat)(x:Nat):eY (eu p t q)∧aS (eu p t q) x=if x=q.1 then(match aS t q.1 with
  |some old=>if p=6 then none else some (qw p old q.2)
  |none=>some q.2)else aS t x:=by
 unfold eu
 cases hg:aS t q.1 with
 |none=>exact⟨j6 ht _ _,EA ht _ _ _⟩
 |some old=>
  simp only;unfold xQ;by_cases hp:p=6
  ·rw[if_neg (by simp[hp]),if_pos hp];exact⟨Ba ht _,XV ht _ _⟩
  ·rw[if_pos (by simp[hp]),if_neg hp];exact⟨j6 ht _ _,EA ht _ _ _⟩
theorem ED (p:Int):∀(m t:PL),eY t→(m.map Prod.fst).Nodup→eY (m.foldl (eu p) t)∧∀x,aS (m.foldl (eu p) t) x=match aS m x with
  |some y=>(match aS t x with
   |some old=>if p=6 then none else some (qw p old y)
   |none=>some y)
  |none=>aS t x
 | [],t,ht,_=>⟨ht,fun x=>rfl⟩
 |q::m,t,ht,hn=>by
  rw[List.map_cons,List.nodup_cons]at hn;obtain⟨h1,h2⟩:=ED p m (eu p t q) (EC ht q 0).1 hn.2;refine⟨h1,fun x=> ?_⟩;rw[List.foldl_cons,h2 x,kQ,(EC ht q x).2];by_cases hx:x=q.1
  ·subst hx;have hm:aS m q.1=none:=iX.2 fun e he hk=>hn.1 (by rw[←hk];exact List.mem_map_of_mem (f:=Prod.fst) he);rw[hm,if_pos rfl];simp
  ·have hx':¬q.1=x:=fun e=>hx e.symm;rw[if_neg hx,if_neg hx']
theorem L8:∀{l:PL} {k v:Nat},(l.map Prod.fst).Nodup→(aS l k=some v↔(k,v)∈l)
 | [],k,v,_=>by simp[aS]
 |q::l,k,v,hn=>by
  rw[List.map_cons,List.nodup_cons]at hn;rw[kQ,List.mem_cons];by_cases hq:q.1=k
  ·rw[if_pos hq];constructor
   ·intro h
    injection h with h
    exact .inl (by rw[←hq,←h])
   ·rintro(h|h)
    ·rw[←h]
    ·exact absurd (List.mem_map_of_mem (f:=Prod.fst) h) (by rw[←hq];exact hn.1)
  ·rw[if_neg hq,L8 hn.2];constructor
   ·exact .inr
   ·rintro(h|h)
    ·exact absurd (congrArg Prod.fst h).symm hq
    ·exact h
theorem Cn (hn:(l.map Prod.fst).Nodup)(x:Nat):aS (bF l) x=aS l x:=
 J8 fun u=>by rw[gQ (iq l),(xI hn).1,L8 hn]
theorem adF (h:eY l):(l.map Prod.fst).Nodup:=by
 unfold List.Nodup;rw[List.pairwise_map]
 exact h.imp fun h=>by omega
theorem EF {m:PL}(p:Int)(hl:l.length≤200)(hm:m.length≤200):oh (bJ p (gG 200 l) (gG 200 m) (gG 200 m) (bJ p (gG 200 l) (gG 200 m) (gG 200 l) []))=l7 p (bF l) (bF m):=by
 obtain⟨ga,na⟩:=G9 (M:=200) hl;obtain⟨gb,nb⟩:=G9 (M:=200) hm;have la:=rE 200 l;have lb:=rE 200 m;generalize gG 200 l=A at*;generalize gG 200 m=B at*;have nT:((bJ p A B B (bJ p A B A [])).map Prod.fst).Nodup:=yP p A B _ _ (yP p A B _ _ (by simp));rw[aam nT]
 have hT:∀x,aS (bJ p A B B (bJ p A B A [])) x=EB p A B x:=fun x=>by
  have h1:=l9 p A B A [];rw[List.length_nil]at h1;rw[zV p A B B _ (by omega),zV p A B A [] (by simp;omega)];have h0:aS ([]:PL) x=none:=rfl;rw[h0];unfold EB
  cases aS A x<;>cases aS B x<;>by_cases hp:1≤p∧p≤6<;>by_cases h6:p=6<;>simp[hp,h6]
 have hself:bF (bF l)=bF l:=Bb (iq _) (iq _) fun k=>Cn (adF (iq l)) k;have key:∀x,aS (bF l) x=aS A x∧aS (bF m) x=aS B x:=fun x=>⟨(ga x).symm,(gb x).symm⟩;unfold l7;rw[hself];by_cases hp:1≤p∧p≤6
 ·rw[if_pos hp];obtain⟨h1,h2⟩:=ED p (bF m) (bF l) (iq l) (adF (iq m));refine Bb (iq _) h1 fun k=> ?_;rw[Cn nT,hT,h2,(key k).1,(key k).2];unfold EB;rw[if_pos hp]
  cases aS A k<;>cases aS B k<;>rfl
 ·rw[if_neg hp];refine Bb (iq _) (iq l) fun k=> ?_;rw[Cn nT,hT,(key k).1];unfold EB;rw[if_neg hp]
  cases aS A k<;>rfl
end Go.Proofs.YtbfpfgfgfjhpfaaGreatDoor
