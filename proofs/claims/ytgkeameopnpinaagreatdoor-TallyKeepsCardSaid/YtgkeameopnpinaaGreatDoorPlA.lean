/- Hashes of plain numbers by their contracts: each kind is a function of the key. No statement of the claim. -/
import Derived.Test.YtgkeameopnpinaaGreatDoorSqM
import Derived.Test.YtgkeameopnpinaaGreatDoorLaneP
import Derived.Laws.Closers25b
import Derived.Deep.LoopGhost
import Derived.Laws.CopyOwn
import Derived.Laws.AppendOwn
import Derived.Shelf.Spec.SlicesInsert
import Derived.Test.YtgkeameopnpinaaGreatDoorCoT
namespace Go.Proofs.YtgkeameopnpinaaGreatDoor
set_option maxRecDepth 100000
set_option maxHeartbeats 4000000
open Go.RowKit bY
def jX (x d m:Int):Int:=bits .or .u64 (bits .and .u64 (x/d) m) (IntKind.u64.wrap (bits .and .u64 x m*d))
def KD (x:Int):Int:=bits .or .u64 (jX (jX x 256 71777214294589695) 65536 281470681808895/4294967296) (IntKind.u64.wrap (jX (jX x 256 71777214294589695) 65536 281470681808895*4294967296))
def Ng (x:Int):Int:=KD (jX (jX (jX x 2 6148914691236517205) 4 3689348814741910323) 16 1085102592571150095)
def rH (x:Int):Nat→Int×Int
 |0=>(x,14695981039346656037)
 |i+1=>((rH x i).1/256,IntKind.u64.wrap (bits .xor .u64 (rH x i).2 (bits .and .u64 (rH x i).1 255)*1099511628211))
def Nh (kind:Nat)(x:Int):Int:=
 match kind with
 |0=>x
 |1=>0
 |2=>IntKind.u64.wrap (x*11400714819323198485)
 |3=>(rH x 8).2
 |4=>Ng x
 |_=>IntKind.u64.wrap (x*288230376151711744)
def lq (kind key:Nat):Nat:=if key<18446744073709551616 then(Nh kind key).toNat else 0
theorem ZV (kind key:Nat)(hk:key<18446744073709551616):0≤Nh kind key∧Nh kind key<18446744073709551616:=by
 have hw:=fun z:Int=>wrap_within .u64 z;have hb:=fun(o:BinOp) (a b:Int)=>bits_within o .u64 a b
 have e1:IntKind.u64.min=0:=by decide
 have e2:IntKind.u64.max=18446744073709551615:=by decide
 rw[e1,e2]at hw hb;unfold Nh;split
 ·omega
 ·omega
 ·have:=hw ((key:Int)*11400714819323198485);omega
 ·have:=hw (bits .xor .u64 (rH key 7).2 (bits .and .u64 (rH key 7).1 255)*1099511628211);show 0≤(rH key 8).2∧(rH key 8).2<_;rw[show(rH key 8).2=IntKind.u64.wrap (bits .xor .u64 (rH key 7).2 (bits .and .u64 (rH key 7).1 255)*1099511628211)from rfl];omega
 ·have:=hb .or (jX (jX (jX (jX (jX key 2 6148914691236517205) 4 3689348814741910323) 16 1085102592571150095) 256 71777214294589695) 65536 281470681808895/4294967296) (IntKind.u64.wrap (jX (jX (jX (jX (jX key 2 6148914691236517205) 4 3689348814741910323) 16 1085102592571150095) 256 71777214294589695) 65536 281470681808895*4294967296));unfold Ng KD;omega
 ·have:=hw ((key:Int)*288230376151711744);omega
theorem Py (kind key:Nat)(hk:key<18446744073709551616):((lq kind key:Nat):Int)=Nh kind key∧lq kind key<18446744073709551616:=by
 have:=ZV kind key hk;unfold lq;rw[if_pos hk];omega
theorem Hz (kind key:Nat):lq kind key<18446744073709551616:=by
 by_cases hk:key<18446744073709551616
 ·exact(Py kind key hk).2
 ·unfold lq;rw[if_neg hk];decide
theorem UG (x:Int)(w:World):
  Calls Tryz.prog 123 #[.int .u64 x] w fun y w'=>y= .returned (.int .u64 (KD x))∧w=w':=by
 unfold KD jX;go_in;go_wp2;go_ret;exact⟨rfl,rfl⟩
theorem abw (x:Int)(w:World):
  Calls Tryz.prog 90 #[.int .u64 x] w fun y w'=>y= .returned (.int .u64 (Ng x))∧w=w':=by
 have HR:=qd (fun(z:Int) (W:World)=>UG z W);obtain⟨r,hr⟩:∃r,r=Ng x:=⟨_,rfl⟩;have HE:=qd hr;rw[←hr];clear hr;go_in;go_wp2_with fail;refine(HR.out _ _).mono ?_;rintro y wq ⟨rfl,rfl⟩;go_wp2;go_ret;exact⟨by rw[HE.out];rfl,rfl⟩
theorem ZW (x:Int)(w:World):
  Calls Tryz.prog 89 #[.int .u64 x] w fun y w'=>y= .returned (.int .u64 (rH x 8).2)∧w=w':=by
 obtain⟨S,hS⟩:∃S,S=rH x:=⟨_,rfl⟩
 have h0:(S 0).1=x∧(S 0).2=14695981039346656037:=by rw[hS];exact⟨rfl,rfl⟩
 have H0:=qd h0;have HS:=qd (show∀i,(S (i+1)).1=(S i).1/256∧(S (i+1)).2=IntKind.u64.wrap (bits .xor .u64 (S i).2 (bits .and .u64 (S i).1 255)*1099511628211)from fun i=>by rw[hS];exact⟨rfl,rfl⟩);rw[←hS];clear hS h0;go_in;go_wp2;go_loopw [0,3,4] (fun v0 v3 v4 wr=>∃i:Nat,i≤8∧v4=nI i∧v0= .int .u64 (S i).1∧v3= .int .u64 (S i).2∧w=wr) (fun _ _ v4 _=>8-(intOf v4).toNat)
 case atStart=>exact⟨0,by omega,rfl,by rw[H0.out.1],by rw[H0.out.2],rfl⟩
 case round=>
  obtain⟨i,hi,rfl,rfl,rfl,rfl⟩:=hrel;by_cases hlt:i<8
  ·have hlt':(i:Int)<8:=by omega
   have hwi:IntKind.i64.wrap ((i:Int)+1)=((i+1:Nat):Int):=by rw[IntKind.wrap_i64];omega
   go_wp2;go_roundw
   case measure=>simp[intOf];omega
   exact⟨i+1,by omega,rfl,by rw[(HS.out i).1],by rw[(HS.out i).2],trivial⟩
  ·obtain rfl:i=8:=by omega
   go_wp2;go_ret;exact⟨rfl,rfl⟩
theorem abx (kind key:Nat)(hk:key<18446744073709551616)(h5:kind≤5)(w:World):
  Calls Tryz.prog 49 #[nI kind,nU key] w fun y w'=>y= .returned (.tuple #[.int .u64 (lq kind key:Int),.nilIface])∧w=w':=by
 have HF:=qd (fun(W:World)=>ZW key W);have HR:=qd (fun(W:World)=>abw key W);have he:=(Py kind key hk).1;obtain⟨r,hr⟩:∃r:Int,r=(lq kind key:Int):=⟨_,rfl⟩;rw[←hr];rw[←hr]at he;clear hr
 have hc:kind=0∨kind=1∨kind=2∨kind=3∨kind=4∨kind=5:=by omega
 rcases hc with rfl|rfl|rfl|rfl|rfl|rfl
 ·have HE:=qd he;clear he;go_in;go_wp2;refine bodyPost_ret (v:= .tuple #[nU key,.nilIface]) (by simp[results,Tryz.results49,go_sem]) rfl ⟨by rw[HE.out];rfl,rfl⟩
 ·have HE:=qd he;clear he;go_in;go_wp2;refine bodyPost_ret (v:= .tuple #[.int .u64 0,.nilIface]) (by simp[results,Tryz.results49,go_sem]) rfl ⟨by rw[HE.out];rfl,rfl⟩
 ·have HE:=qd he;clear he;go_in;go_wp2;refine bodyPost_ret (v:= .tuple #[.int .u64 (IntKind.u64.wrap ((key:Int)*11400714819323198485)),.nilIface]) (by simp[results,Tryz.results49,go_sem]) rfl ⟨by rw[HE.out];rfl,rfl⟩
 ·have HE:=qd he;clear he;go_in;go_wp2_with fail;refine(HF.out _).mono ?_;rintro y wq ⟨rfl,rfl⟩;go_wp2;refine bodyPost_ret (v:= .tuple #[.int .u64 (rH key 8).2,.nilIface]) (by simp[results,Tryz.results49,go_sem]) rfl ⟨by rw[HE.out];rfl,rfl⟩
 ·have HE:=qd he;clear he;go_in;go_wp2_with fail;refine(HR.out _).mono ?_;rintro y wq ⟨rfl,rfl⟩;go_wp2;refine bodyPost_ret (v:= .tuple #[.int .u64 (Ng key),.nilIface]) (by simp[results,Tryz.results49,go_sem]) rfl ⟨by rw[HE.out];rfl,rfl⟩
 ·have HE:=qd he;clear he;go_in;go_wp2;refine bodyPost_ret (v:= .tuple #[.int .u64 (IntKind.u64.wrap ((key:Int)*288230376151711744)),.nilIface]) (by simp[results,Tryz.results49,go_sem]) rfl ⟨by rw[HE.out];rfl,rfl⟩
end Go.Proofs.YtgkeameopnpinaaGreatDoor

/-! A partial function as a row of pairs, rising by keys: looked up, put, taken out. No program in sight. -/
namespace Go.Proofs.YtgkeameopnpinaaGreatDoor.rZ
set_option maxRecDepth 100000
set_option maxHeartbeats 4000000
open Go.RowKit bY rZ
variable {p : Nat × Nat} {k v : Nat}
abbrev PL:=List (Nat×Nat)
def jG (l:PL):Prop:=l.Pairwise fun a b=>a.1<b.1
def iB (l:PL)(k:Nat):Nat:=l.countP fun p=>decide (p.1<k)
def qE (l:PL)(k:Nat):Bool:=(l[iB l k]?).any fun p=>p.1==k
def ny (l:PL)(k:Nat):Option Nat:=(l.find? fun p=>p.1==k).map Prod.snd
def nA (l:PL)(k v:Nat):PL:=if qE l k then l.set (iB l k) (k,v)else l.take (iB l k)++(k,v)::l.drop (iB l k)
def afe (l:PL)(k:Nat):PL:=if qE l k then l.eraseIdx (iB l k)else l
theorem H7 (l:PL)(k:Nat):iB l k≤l.length:=List.countP_le_length
theorem vw:∀{l:PL} {k i:Nat} {p:Nat×Nat},jG l→l[i]?=some p→(i<iB l k↔p.1<k)
 | [],_,_,_,_,h=>by simp at h
 |x::l,k,i,p,ha,h=>by
  have ha':=List.pairwise_cons.1 ha;unfold iB;rw[List.countP_cons];by_cases hx:x.1<k
  ·simp only[hx,decide_true,if_true]
   cases i with
   |zero=>obtain rfl:=Option.some.inj h;simp[hx]
   |succ i=>
    have:=vw (k:=k) (i:=i) ha'.2 h;unfold iB at this;omega
  ·simp only[hx,decide_false]
   have h0:l.countP (fun p=>decide (p.1<k))=0:=by
    rw[List.countP_eq_zero];intro y hy hd;have h1:=ha'.1 y hy
    have h2:y.1<k:=by simpa using hd
    omega
   rw[h0]
   have hp:x.1≤p.1:=by
    cases i with
    |zero=>obtain rfl:=Option.some.inj h;exact Nat.le_refl _
    |succ i=>exact Nat.le_of_lt (ha'.1 p (List.mem_of_getElem? h))
   simp;omega
theorem zk {l:PL}(h:jG l){i j:Nat}{q:Nat×Nat}(hij:i<j)(hp:l[i]?=some p)(hq:l[j]?=some q):p.1<q.1:=by
 obtain⟨h1,rfl⟩:=List.getElem?_eq_some_iff.1 hp;obtain⟨h2,rfl⟩:=List.getElem?_eq_some_iff.1 hq;exact List.pairwise_iff_getElem.1 h i j h1 h2 hij
theorem aby {l:PL}(h:∀(i j:Nat) (p q:Nat×Nat),i<j→l[i]?=some p→l[j]?=some q→p.1<q.1):jG l:=
 List.pairwise_iff_getElem.2 fun i j h1 h2 hij=>h i j _ _ hij (List.getElem?_eq_getElem h1) (List.getElem?_eq_getElem h2)
theorem jU {l:PL}(ha:jG l):ny l k=some v↔(k,v)∈l:=by
 unfold ny;constructor
 ·intro h;obtain⟨p,hp,rfl⟩:=Option.map_eq_some_iff.1 h;have h1:=List.find?_some hp;have h2:=List.mem_of_find?_eq_some hp
  have:p.1=k:=by simpa using h1
  rw[←this];exact h2
 ·intro h
  cases hf:l.find? fun p=>p.1==k with
  |none=>
   have:=List.find?_eq_none.1 hf _ h;simp at this
  |some p=>
   have h1:p.1=k:=by simpa using List.find?_some hf
   obtain⟨i,hi⟩:=List.getElem?_of_mem h;obtain⟨j,hj⟩:=List.getElem?_of_mem (List.mem_of_find?_eq_some hf)
   have hij:i=j:=by
    rcases Nat.lt_trichotomy i j with hl|hl|hl
    ·have:=zk ha hl hi hj;simp only at this;omega
    ·exact hl
    ·have:=zk ha hl hj hi;simp only at this;omega
   subst hij;rw[hi]at hj;obtain rfl:=Option.some.inj hj;rfl
theorem qF {l:PL}:ny l k=none↔∀p∈l,p.1≠k:=by
 unfold ny;rw[Option.map_eq_none_iff,List.find?_eq_none];simp
theorem CP {l:PL}(ha:jG l):qE l k=true↔∃v,l[iB l k]?=some (k,v)∧ny l k=some v:=by
 unfold qE
 cases h:l[iB l k]? with
 |none=>simp
 |some p=>
  simp only[Option.any_some];constructor
  ·intro hk
   have hk':p.1=k:=by simpa using hk
   subst hk';exact⟨p.2,rfl,(jU ha).2 (List.mem_of_getElem? h)⟩
  ·rintro⟨v,hv,_⟩;obtain rfl:=Option.some.inj hv;simp
theorem Ct {l:PL}(ha:jG l)(h:qE l k=false):ny l k=none:=by
 rw[qF];intro p hp he;obtain⟨i,hi⟩:=List.getElem?_of_mem hp;have h1:=vw (k:=k) ha hi
 have hge:iB l k≤i:=by omega
 have hlt:iB l k<l.length:=by have:=(List.getElem?_eq_some_iff.1 hi).1;omega
 obtain⟨q,hq⟩:∃q,l[iB l k]?=some q:=⟨_,List.getElem?_eq_getElem hlt⟩;have h2:=not_congr (vw (k:=k) ha hq);rcases Nat.lt_or_eq_of_le hge with hl|hl
 ·have:=zk ha hl hq hi;omega
 ·unfold qE at h;rw[hl,hi]at h;simp[he]at h
theorem Pz {l:PL}(ha:jG l)(k:Nat):qE l k=(ny l k).isSome:=by
 cases h:qE l k with
 |true=>obtain⟨v,_,h2⟩:=(CP ha).1 h;rw[h2];rfl
 |false=>rw[Ct ha h];rfl
theorem zZ {l:PL}(ha:jG l):p∈nA l k v↔p=(k,v)∨(p∈l∧p.1≠k):=by
 unfold nA;by_cases hk:qE l k=true
 ·rw[if_pos hk];obtain⟨u,hu,_⟩:=(CP ha).1 hk;obtain⟨hlt,hu'⟩:=List.getElem?_eq_some_iff.1 hu;constructor
  ·intro h;obtain⟨i,hi⟩:=List.getElem?_of_mem h;rw[List.getElem?_set]at hi;by_cases he:iB l k=i
   ·rw[if_pos he,if_pos hlt]at hi;exact .inl (Option.some.inj hi).symm
   ·rw[if_neg he]at hi;refine .inr ⟨List.mem_of_getElem? hi,fun hke=>he ?_⟩;rcases Nat.lt_trichotomy (iB l k) i with hl|hl|hl
    ·have:=zk ha hl hu hi;simp only at this;omega
    ·exact hl
    ·have:=zk ha hl hi hu;simp only at this;omega
  ·rintro(rfl|⟨h,hne⟩)
   ·exact List.mem_of_getElem? (i:=iB l k) (by rw[List.getElem?_set,if_pos rfl,if_pos hlt])
   ·obtain⟨i,hi⟩:=List.getElem?_of_mem h;refine List.mem_of_getElem? (i:=i) ?_;rw[List.getElem?_set,if_neg,hi];intro he;subst he;rw[hu]at hi;obtain rfl:=Option.some.inj hi;exact hne rfl
 ·rw[if_neg hk];have h0:=qF.1 (Ct ha (by simpa using hk));rw[List.mem_append,List.mem_cons];constructor
  ·rintro(h|h|h)
   ·exact .inr ⟨List.mem_of_mem_take h,h0 p (List.mem_of_mem_take h)⟩
   ·exact .inl h
   ·exact .inr ⟨List.mem_of_mem_drop h,h0 p (List.mem_of_mem_drop h)⟩
  ·rintro(h|⟨h,_⟩)
   ·exact .inr (.inl h)
   ·rw[←List.take_append_drop (iB l k) l,List.mem_append]at h;rcases h with h|h
    ·exact .inl h
    ·exact .inr (.inr h)
theorem Aa {l:PL}(ha:jG l)(k v:Nat):jG (nA l k v):=by
 unfold nA;by_cases hk:qE l k=true
 ·rw[if_pos hk];obtain⟨u,hu,_⟩:=(CP ha).1 hk
  have key:∀(i:Nat) (p:Nat×Nat),(l.set (iB l k) (k,v))[i]?=some p→∃p':Nat×Nat,l[i]?=some p'∧p'.1=p.1:=by
   intro i p hi;rw[List.getElem?_set]at hi;by_cases he:iB l k=i
   ·rw[if_pos he]at hi;split at hi
    ·obtain rfl:=Option.some.inj hi;exact⟨(k,u),he▸hu,rfl⟩
    ·cases hi
   ·rw[if_neg he]at hi;exact⟨p,hi,rfl⟩
  refine aby fun i j p q hij hp hq=> ?_;obtain⟨p',h1,e1⟩:=key i p hp;obtain⟨q',h2,e2⟩:=key j q hq;have:=zk ha hij h1 h2;omega
 ·rw[if_neg hk];have h0:=qF.1 (Ct ha (by simpa using hk))
  have hlow:∀p∈l.take (iB l k),p.1<k:=by
   intro p hp;obtain⟨i,hi⟩:=List.getElem?_of_mem hp;rw[List.getElem?_take]at hi;split at hi
   ·next hlt=>exact(vw ha hi).1 hlt
   ·cases hi
  have hhigh:∀p∈l.drop (iB l k),k<p.1:=by
   intro p hp;have hne:=h0 p (List.mem_of_mem_drop hp);obtain⟨i,hi⟩:=List.getElem?_of_mem hp;rw[List.getElem?_drop]at hi;have:=not_congr (vw (k:=k) ha hi);omega
  unfold jG;rw[List.pairwise_append,List.pairwise_cons];refine⟨ha.sublist (List.take_sublist _ _),⟨fun p hp=>hhigh p hp,ha.sublist (List.drop_sublist _ _)⟩,fun p hp q hq=> ?_⟩;have h1:=hlow p hp;rcases List.mem_cons.1 hq with rfl|hq
  ·exact h1
  ·have:=hhigh q hq;omega
theorem Xz {l:PL}(ha:jG l)(k v k':Nat):ny (nA l k v) k'=if k'=k then some v else ny l k':=by
 have hb:=Aa ha k v;by_cases hk:k'=k
 ·subst hk;rw[if_pos rfl];exact(jU hb).2 ((zZ ha).2 (.inl rfl))
 ·rw[if_neg hk]
  cases h:ny l k' with
  |some u=>exact(jU hb).2 ((zZ ha).2 (.inr ⟨(jU ha).1 h,hk⟩))
  |none=>
   rw[qF]at h⊢;intro p hp;rcases(zZ ha).1 hp with rfl|⟨h1,_⟩
   ·exact fun e=>hk e.symm
   ·exact h p h1
theorem Oe {l:PL}(ha:jG l)(k v:Nat):(nA l k v).length=if(ny l k).isSome then l.length else l.length+1:=by
 rw[←Pz ha];unfold nA;by_cases hk:qE l k=true
 ·rw[if_pos hk,if_pos hk,List.length_set]
 ·rw[if_neg hk,if_neg hk,List.length_append,List.length_cons,List.length_take,List.length_drop];have:=H7 l k;omega
def jw (l:PL):PL:=l.foldl (fun t p=>nA t p.1 p.2) []
theorem UH (l:PL)(p:Nat×Nat):jw (l++[p])=nA (jw l) p.1 p.2:=by unfold jw;rw[List.foldl_append];rfl
theorem JH:∀(l t:PL),jG t→jG (l.foldl (fun t p=>nA t p.1 p.2) t)
 | [],_,h=>h
 |p::l,_,h=>JH l _ (Aa h p.1 p.2)
theorem Ab (l:PL):jG (jw l):=JH l [] List.Pairwise.nil
theorem JI:∀(l t:PL),jG t→(l.map Prod.fst).Nodup→(∀p∈l,ny t p.1=none)→(∀q,q∈l.foldl (fun t p=>nA t p.1 p.2) t↔q∈t∨q∈l)∧(l.foldl (fun t p=>nA t p.1 p.2) t).length=t.length+l.length
 | [],t,_,_,_=>by simp
 |p::l,t,ht,hn,hd=>by
  rw[List.map_cons,List.nodup_cons]at hn;have hp:=hd p (by simp)
  have ih:=JI l (nA t p.1 p.2) (Aa ht _ _) hn.2 (fun q hq=>by
   rw[Xz ht,if_neg (fun e:q.1=p.1=>hn.1 (e▸List.mem_map_of_mem hq))]
   exact hd q (by simp[hq]))
  rw[Oe ht,hp]at ih;refine⟨fun q=> ?_, ?_⟩
  ·rw[List.foldl_cons,ih.1 q,zZ ht,List.mem_cons];constructor
   ·rintro((h|h)|h)
    ·exact .inr (.inl h)
    ·exact .inl h.1
    ·exact .inr (.inr h)
   ·rintro(h|h|h)
    ·exact .inl (.inr ⟨h,(qF.1 hp) q h⟩)
    ·exact .inl (.inl h)
    ·exact .inr h
  ·rw[List.foldl_cons,ih.2];simp;omega
theorem Ni {l:PL}(hn:(l.map Prod.fst).Nodup):(∀q,q∈jw l↔q∈l)∧(jw l).length=l.length:=by
 have:=JI l [] List.Pairwise.nil hn (fun _ _=>rfl);refine⟨fun q=> ?_, ?_⟩
 ·rw[jw,this.1 q];simp
 ·rw[jw,this.2];simp
end Go.Proofs.YtgkeameopnpinaaGreatDoor.rZ

/-! A copy of elements of any size, and what it leaves of a row of the call's own. No program in sight. -/
namespace Go.Proofs.YtgkeameopnpinaaGreatDoor
set_option maxRecDepth 100000
set_option maxHeartbeats 4000000
open Go.RowKit bY rZ
variable {d n o : Nat}
theorem xL {P:Program}(w:World)(dT sT ty elem:TypeId)(sz g o dLen dCap:Nat)(a:Addr)(sLen sCap:Nat)(cur:Array Value)(t:TypeId)(cs:List Value)(hu:P.underlying dT=some (.slice elem))(hs:(P.info? elem).map (·.size)=some sz)(hg:w.heap[g]?=some (.cells cur t (0,0)))(hn:cs.length=Nat.min sLen dLen*sz)(hsrc:∀j v,cs[j]?=some v→w.cell? (a.add j)=some v)(hfit:o+cs.length≤cur.size)(h1:∀v∈cs,v.oneCell'=true):
  (Builtin.copy_ #[dT,sT] ty #[.slice (some ⟨g,o,none⟩) dLen dCap,.slice (some a) sLen sCap]).run P w=
   .ok (goInt (Nat.min sLen dLen)) (w.setRow g (splice cur.toList o cs).toArray):=by
 have hl:=run_loadCells_list (P:=P) w a cs hsrc;have hst:=run_storeCells_at P g o t cs 0 cur w hg (by simpa using hfit) h1
 cases hq:P.info? elem with
 |none=>simp[hq]at hs
 |some i=>
  have hi:i.size=sz:=by simpa[hq]using hs
  simp[Builtin.copy_,run_underlying hu,Builtin.lenOf,Builtin.firstCells,sizeOf,typeInfo,hq,hi,←hn,hl,hst,splice]
section
variable {α : Type} {L cs xs vs : List α}
theorem qG (ho:o≤L.length)(j:Nat):(splice L o cs)[j]?=if j<o then L[j]? else if j<o+cs.length then cs[j-o]? else L[j]?:=by
 unfold splice;by_cases h1:j<o
 ·rw[if_pos h1,List.getElem?_append_left (by rw[List.length_take];omega),List.getElem?_take_of_lt h1]
 ·rw[if_neg h1,List.getElem?_append_right (by rw[List.length_take];omega),List.length_take,Nat.min_eq_left ho];by_cases h2:j<o+cs.length
  ·rw[if_pos h2,List.getElem?_append_left (by omega)]
  ·rw[if_neg h2,List.getElem?_append_right (by omega),List.getElem?_drop];congr 1;omega
theorem ow (h:o+cs.length≤L.length):(splice L o cs).length=L.length:=length_splice L o cs h
theorem UJ (hx:L.take n=xs)(hd:d≤n)(hn:n+vs.length≤L.length):(splice (splice L (d+vs.length) (xs.drop d)) d vs).take (n+vs.length)=xs.take d++(vs++xs.drop d):=by
 have hl:xs.length=n:=by rw[←hx,List.length_take];omega
 have h1:(splice L (d+vs.length) (xs.drop d)).length=L.length:=ow (by rw[List.length_drop];omega);apply List.ext_getElem?;intro j;by_cases hj:j<n+vs.length
 ·rw[List.getElem?_take_of_lt hj,qG (by omega)];by_cases j1:j<d
  ·rw[if_pos j1,qG (by omega),if_pos (by omega),List.getElem?_append_left (by rw[List.length_take];omega),List.getElem?_take_of_lt j1,←hx,List.getElem?_take_of_lt (by omega)]
  ·rw[if_neg j1,List.getElem?_append_right (by rw[List.length_take];omega),List.length_take,Nat.min_eq_left (by omega)];by_cases j2:j<d+vs.length
   ·rw[if_pos j2,List.getElem?_append_left (by omega)]
   ·rw[if_neg j2,qG (by omega),if_neg j2,if_pos (by rw[List.length_drop];omega),List.getElem?_append_right (by omega)];congr 1;omega
 ·rw[List.getElem?_eq_none (by rw[List.length_take];omega),List.getElem?_eq_none (by simp;omega)]
theorem XA {Z:List α}(hl:xs.length=n)(hd:d≤n)(hZ:n+vs.length-d≤Z.length):(splice (splice (xs.take d++Z) d vs) (d+vs.length) (xs.drop d)).take (n+vs.length)=xs.take d++(vs++xs.drop d):=by
 have h0:(xs.take d++Z).length=d+Z.length:=by rw[List.length_append,List.length_take];omega
 have h1:(splice (xs.take d++Z) d vs).length=d+Z.length:=by rw[ow (by omega),h0]
 apply List.ext_getElem?;intro j;by_cases hj:j<n+vs.length
 ·rw[List.getElem?_take_of_lt hj,qG (by omega)];by_cases j1:j<d
  ·rw[if_pos (by omega),qG (by omega),if_pos j1,List.getElem?_append_left (by rw[List.length_take];omega),List.getElem?_append_left (by rw[List.length_take];omega)]
  ·rw[List.getElem?_append_right (by rw[List.length_take];omega),List.length_take,Nat.min_eq_left (by omega)];by_cases j2:j<d+vs.length
   ·rw[if_pos j2,qG (by omega),if_neg j1,if_pos j2,List.getElem?_append_left (by omega)]
   ·rw[if_neg j2,if_pos (by rw[List.length_drop];omega),List.getElem?_append_right (by omega)];congr 1;omega
 ·rw[List.getElem?_eq_none (by rw[List.length_take];omega),List.getElem?_eq_none (by simp;omega)]
end
theorem Gl {w:World}{base g cap sz:Nat}{t:TypeId}{cur cur':Array Value}{xs:List Value}(hg:w.heap[g]?=some (.cells cur t (0,0)))(hb:base≤g)(hc:n≤cap)(hm:cap≤maxLen)(hs:cur'.size=cap*sz)(hx:cur'.toList.take (n*sz)=xs):
  (w.setRow g cur').ownsRow base t sz (.slice (some ⟨g,0,none⟩) n cap) n xs∧Mod [g] w (w.setRow g cur'):=by
 have hlt:g<w.heap.size:=(Array.getElem?_eq_some_iff.1 hg).1;refine⟨⟨?_,.inr ⟨g,cap,cur',rfl,hb,setRow_heap w g cur cur' t (0,0) hg,hc,hm,hs,hx⟩⟩,rfl,rfl,rfl,by simp[World.setRow],fun k hk hne=>setRow_other w g k cur' (fun e=>hne (by simp[e]))⟩;rw[←hx,List.length_take,Array.length_toList,hs];have:=Nat.mul_le_mul_right sz hc;omega
end Go.Proofs.YtgkeameopnpinaaGreatDoor

/-! A function as a rising row of pairs: its block, its row; a key found by halves. No statement of the claim. -/
namespace Go.Proofs.YtgkeameopnpinaaGreatDoor
set_option maxRecDepth 100000
set_option maxHeartbeats 4000000
open Go.RowKit bY rZ
def dW (p:Nat×Nat):List Value:=[nU p.1,nU p.2]
theorem om {p:Nat×Nat}{q:Nat}:∀{l:PL} {i:Nat},l[i]?=some p→q<2→(l.flatMap dW)[i*2+q]?=some ((dW p)[q]!)
 | [],_,h,_=>by simp at h
 |x::l,0,h,hq=>by
  obtain rfl:=Option.some.inj h;rw[List.flatMap_cons,List.getElem?_append_left (by simp[dW];omega)]
  have:q=0∨q=1:=by omega
  rcases this with rfl|rfl<;>rfl
 |x::l,i+1,h,hq=>by
  rw[List.flatMap_cons,List.getElem?_append_right (by simp[dW];omega)];have:=om (l:=l) (i:=i) h hq;rw[show(i+1)*2+q-(dW x).length=i*2+q by simp[dW];omega];exact this
theorem gU (l:PL):(l.flatMap dW).length=l.length*2:=by
 induction l with
 |nil=>rfl
 |cons x l ih=>rw[List.flatMap_cons,List.length_append,ih,List.length_cons];simp[dW];omega
theorem Cu (l:PL):∀v∈l.flatMap dW,v.oneCell'=true:=by
 intro v hv;obtain⟨p,_,hp⟩:=List.mem_flatMap.1 hv;simp only[dW,List.mem_cons,List.not_mem_nil,or_false]at hp
 rcases hp with rfl|rfl<;>rfl
theorem Rq (l:PL)(i:Nat):(l.flatMap dW).take (i*2)=(l.take i).flatMap dW:=by
 by_cases hi:i≤l.length
 ·have h:=congrArg (List.flatMap dW) (List.take_append_drop i l);rw[List.flatMap_append]at h;rw[←h,List.take_append_of_le_length (by rw[gU,List.length_take];omega),List.take_of_length_le (by rw[gU,List.length_take];omega)]
 ·rw[List.take_of_length_le (by rw[gU];omega),List.take_of_length_le (by omega)]
theorem Rs (l:PL)(i:Nat):(l.flatMap dW).drop (i*2)=(l.drop i).flatMap dW:=by
 have h:=congrArg (List.flatMap dW) (List.take_append_drop i l);rw[List.flatMap_append]at h;by_cases hi:i≤l.length
 ·rw[←h,List.drop_append_of_le_length (by rw[gU,List.length_take];omega),List.drop_of_length_le (by rw[gU,List.length_take];omega),List.nil_append]
 ·rw[List.drop_of_length_le (by rw[gU];omega),List.drop_of_length_le (by omega)];rfl
theorem UK {l:PL}{i:Nat}(h:i<l.length)(k v:Nat)(hk:(l[i]?).map Prod.fst=some k):(l.flatMap dW).set (i*2+1) (nU v)=(l.set i (k,v)).flatMap dW:=by
 induction l generalizing i with
 |nil=>simp at h
 |cons x l ih=>
  cases i with
  |zero=>
   have:x.1=k:=by simpa using hk
   simp[dW,this]
  |succ i=>
   rw[List.set_cons_succ,List.flatMap_cons,List.flatMap_cons,←ih (by simpa using h) (by simpa using hk),List.set_append_right _ _ (by simp[dW];omega)];congr 2;simp[dW];omega
theorem yC:(Tryz.prog.info? 61).map (fun i=>(i.zero,i.size,i.bytes))=some (some (.agg #[.int .u64 0,.int .u64 0]),2,16):=by kernel_rfl
def r9 (base:Nat)(w:World)(fb most:Nat)(F:List Nat)(l:PL):Prop:=
 ∃v,aj w fb 132 #[nI most,v]∧w.ownsRow base 61 2 v l.length (l.flatMap dW)∧F=fb::v.ownBlock.toList∧base≤fb∧jG l
def XB (base:Nat)(w w':World)(fb most:Nat)(F:List Nat)(l:PL):Prop:=
 ∃F',r9 base w' fb most F' l∧(∀q∈F',q∈F∨w.heap.size≤q)∧Mod F w w'
theorem ZX {w:World}{base n g sz:Nat}{e t:TypeId}{v:Value}{xs:List Value}{cs:Array Value}(h:w.ownsRow base e sz v n xs)(hB:aj w g t cs)(ht:t≠e):g∉v.ownBlock.toList:=by
 intro hg
 have hg':v.ownBlock=some g:=by simpa using hg
 rcases h.2 with⟨rfl,_⟩|⟨g',cap,cur,rfl,_,hh,_⟩
 ·cases hg'
 ·have:g'=g:=by simpa[Value.ownBlock]using hg'
  subst this;have h1:w.heap[g']?=some (.cells cs t (0,0)):=hB;rw[hh]at h1
  injection h1 with h1
  injection h1 with _ h1 _
  exact ht h1.symm
section
variable {base most fb n : Nat} {w w' : World} {F S : List Nat} {l l' : PL}
theorem r9.fA (h:r9 base w fb most F l):∀q∈F,q<w.heap.size∧base≤q:=by
 obtain⟨v,h1,h2,rfl,h3,_⟩:=h;intro q hq;rcases List.mem_cons.1 hq with rfl|hq
 ·exact⟨h1.lt,h3⟩
 ·have:=h2.lt q (by simpa using hq);exact⟨this.2,this.1⟩
theorem r9.mod (h:r9 base w fb most F l)(hm:Mod S w w')(hS:∀q∈S,q∉F):r9 base w' fb most F l:=by
 obtain⟨v,h1,h2,rfl,h3⟩:=h;refine⟨v,h1.mod hm (fun hq=>hS fb hq (by simp)),⟨h2.1, ?_⟩,rfl,h3⟩;rcases h2.2 with k|⟨g,cap,cur,rfl,k2,k3,k4⟩
 ·exact .inl k
 ·refine .inr ⟨g,cap,cur,rfl,k2, ?_,k4⟩;rw[hm.block g (Array.getElem?_eq_some_iff.1 k3).1 (fun hq=>hS g hq (by simp[Value.ownBlock]))];exact k3
theorem r9.below (h:r9 base w fb most F l)(hb:Below w.heap.size w w'):r9 base w' fb most F l:=h.mod (Mod.of_below hb []) (by simp)
theorem r9.qH (h:r9 base w fb most F l):jG l:=by
 obtain⟨v,_,_,_,_,h⟩:=h;exact h
end
def kS (a b:Nat):Int:=if a<b then-1 else if b<a then 1 else 0
theorem UL (x:Int)(w:World):Calls Tryz.prog 83 #[.int .u64 x] w fun y w'=>y= .returned (.bool false)∧w=w':=by
 go_in;go_wp2;go_ret;exact⟨by simp,rfl⟩
theorem Og (a b:Nat)(w:World):Calls Tryz.prog 44 #[nU a,nU b] w fun e w'=>e= .returned (.int .i64 (kS a b))∧w=w':=by
 have HN:=qd (fun(z:Int) (W:World)=>UL z W);obtain⟨v,hv⟩:∃v,v=kS a b:=⟨_,rfl⟩;rw[←hv];rcases Nat.lt_trichotomy a b with h|h|h
 focus
  have h1:(a:Int)<(b:Int):=by omega
  obtain rfl:v= -1:=by rw[hv];unfold kS;rw[if_pos h]
  clear hv h
 rotate_left
 focus
  subst h
  obtain rfl:v=0:=by rw[hv];unfold kS;simp
  clear hv
 rotate_left
 focus
  have h1:¬(a:Int)<(b:Int):=by omega
  have h2:(b:Int)<(a:Int):=by omega
  obtain rfl:v=1:=by rw[hv];unfold kS;rw[if_neg (by omega),if_pos h]
  clear hv h
 all_goals
  go_in;go_wp2_with fail;refine(HN.out _ _).mono ?_;rintro e wq ⟨rfl,rfl⟩;go_wp2_with fail;refine(HN.out _ _).mono ?_;rintro e wq ⟨rfl,rfl⟩;go_wp2;go_ret;exact⟨rfl,rfl⟩
theorem Nj (p:Nat×Nat)(key:Nat)(w:World):Calls Tryz.prog 111 #[.agg #[nU p.1,nU p.2],nU key] w fun e w'=>e= .returned (.int .i64 (kS p.1 key))∧Below w.heap.size w w':=by
 have HC:=qd (fun(W:World)=>Og p.1 key W);go_in;go_wp2_with fail;refine(HC.out _).mono ?_;rintro e wq ⟨rfl,rfl⟩;go_wp2;go_ret;exact⟨rfl,(Below.refl w.heap.size w).alloc (Nat.le_refl _) _⟩
end Go.Proofs.YtgkeameopnpinaaGreatDoor
