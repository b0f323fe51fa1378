/- The map as a function of keys, whatever the hashes. No statement of the claim. -/
import Derived.Test.YthfgacnlojmmfaaGreatDoorRmK
import Derived.Laws.CopyOwn
import Derived.Laws.AppendOwn
import Derived.Shelf.Spec.SlicesInsert
import Derived.Test.YthfgacnlojmmfaaGreatDoorCoM
import Derived.Test.YthfgacnlojmmfaaGreatDoorLaneP
import Derived.Test.YthfgacnlojmmfaaGreatDoorCoL
namespace Go.Proofs.YthfgacnlojmmfaaGreatDoor
set_option maxRecDepth 100000
set_option maxHeartbeats 4000000
open Go.RowKit AmC
variable {es es' : List Ent} {key : Nat}
def fnM (es:List Ent):Nat→Option Nat:=fun k=>(look es k).map Ent.val
theorem lookM_rest (es:List Ent)(key k:Nat):look (rest es key) k=if k=key then none else look es k:=by
 unfold look rest;rw[List.find?_filter];split
 ·rename_i h;subst h;rw[List.find?_eq_none];intro x _;simp
 ·rename_i h;congr 1;funext x;by_cases hx:x.key=k
  ·simp[hx,h]
  ·simp[hx]
theorem lookM_snoc (l:List Ent)(e:Ent)(k:Nat):look (l++[e]) k=(look l k).or (if e.key=k then some e else none):=by
 unfold look;rw[List.find?_append];congr 1;by_cases h:e.key=k
 ·simp[h]
 ·simp[h]
theorem restM_len (hn:(es.map Ent.key).Nodup)(key:Nat):(rest es key).length=if(fnM es key).isSome then es.length-1 else es.length:=by
 unfold fnM
 cases hl:look es key with
 |none=>rw[rest_none hl];simp
 |some e=>
  obtain⟨h1,rfl⟩:=look_mem hl;have hp:=List.perm_cons_erase h1;have h2:=(rest_cons hn hp).length_eq;rw[h2,List.length_erase_of_mem h1];simp
def noRoom (M:Nat)(o:Option Nat)(n:Nat):Bool:=o.isNone && decide (M≤n)
def putF (M:Nat)(R:Nat→Option Nat)(n k v:Nat):Nat→Option Nat:=if noRoom M (R k) n then R else fun x=>if x=k then some v else R x
def putN (M:Nat)(o:Option Nat)(n:Nat):Nat:=if o.isSome||decide (M≤n)then n else n+1
def delF (R:Nat→Option Nat)(k:Nat):Nat→Option Nat:=fun x=>if x=k then none else R x
def delN (o:Option Nat)(n:Nat):Nat:=if o.isSome then n-1 else n
theorem fullM {M:Nat}:fullB M es key=noRoom M (fnM es key) es.length:=by
 unfold fullB noRoom fnM
 cases look es key<;>rfl
theorem fnM_put {M:Nat}{e:Ent}(hn:(es.map Ent.key).Nodup)(hn':(es'.map Ent.key).Nodup)(hp:es'.Perm (putL M es e)):fnM es'=putF M (fnM es) es.length e.key e.val∧es'.length=putN M (fnM es e.key) es.length:=by
 unfold putL at hp;unfold putF;rw[fullM]at hp;by_cases hf:noRoom M (fnM es e.key) es.length=true
 ·rw[if_pos hf]at hp⊢;refine⟨funext fun k=> ?_, ?_⟩
  ·show(look es' k).map Ent.val=_;rw[look_perm hp hn'];rfl
  ·rw[hp.length_eq];unfold noRoom at hf;unfold putN;rw[Bool.and_eq_true]at hf;rw[hf.2,Bool.or_true,if_pos rfl]
 ·rw[if_neg hf]at hp⊢;refine⟨funext fun k=> ?_, ?_⟩
  ·show(look es' k).map Ent.val=_;rw[look_perm hp hn',lookM_snoc,lookM_rest];by_cases hk:k=e.key
   ·rw[if_pos hk,if_pos hk.symm,if_pos hk];rfl
   ·rw[if_neg hk,if_neg (fun h=>hk h.symm),if_neg hk,Option.or_none];rfl
  ·rw[hp.length_eq,List.length_append,restM_len hn];unfold noRoom at hf;unfold putN
   cases hl:fnM es e.key with
   |none=>
    rw[hl]at hf;simp only[Option.isNone_none,Bool.true_and]at hf;simp[hf]
   |some v=>
    have:0<es.length:=by
     cases es with
     |nil=>simp[fnM,look]at hl
     |cons=>simp
    simp;omega
def MpAt (W0:World)(E:Nat→Addr)(H:Nat→Nat)(K M I b:Nat)(G:List Nat)(w:World)(R:Nat→Option Nat)(n:Nat)(its:List It)(gv:Nat):Prop:=
 ∃(a:Pool) (ids:List Nat) (lst:Cnt),RtAt W0 E H K M I b G w a ids its gv lst∧fnM a.ents=R∧a.ents.length=n
def MpTo (W0:World)(E:Nat→Addr)(H:Nat→Nat)(K M I b:Nat)(G:List Nat)(w w':World)(R:Nat→Option Nat)(n:Nat)(its:List It)(gv:Nat):Prop:=
 ∃G',MpAt W0 E H K M I b G' w' R n its gv∧(∀q∈G',q∈G∨w.heap.size≤q)∧Mod G w w'
section
variable {W0 : World} {E : Nat → Addr} {H : Nat → Nat} {K M I b : Nat} {G : List Nat} {w w' : World} {R : Nat → Option Nat} {n : Nat} {its : List It} {gv : Nat}
theorem MpAt.below (h:MpAt W0 E H K M I b G w R n its gv)(hb:Below w.heap.size w w'):MpAt W0 E H K M I b G w' R n its gv:=by
 obtain⟨a,ids,lst,h1,h2⟩:=h;exact⟨a,ids,lst,h1.below hb,h2⟩
theorem MpAt.lts (h:MpAt W0 E H K M I b G w R n its gv):∀q∈G,q<w.heap.size∧W0.heap.size≤q:=by
 obtain⟨a,ids,lst,h1,_⟩:=h;exact h1.facts.1
theorem MpAt.mod {S:List Nat}(h:MpAt W0 E H K M I b G w R n its gv)(hm:Mod S w w')(hS:∀q∈S,q∉G∧W0.heap.size≤q):MpAt W0 E H K M I b G w' R n its gv:=by
 obtain⟨a,ids,lst,h1,h2⟩:=h;exact⟨a,ids,lst,h1.mod hm hS,h2⟩
theorem MpAt.env (h:MpAt W0 E H K M I b G w R n its gv):Env W0 E w:=by
 obtain⟨a,ids,lst,h1,_⟩:=h;exact h1.facts.2.2.2.2.2.2.2.2.2
theorem MpAt.least (h:MpAt W0 E H K M I b G w R n its gv):n≤M∧M≤192:=by
 obtain⟨a,ids,lst,h1,_,h3⟩:=h;exact⟨h3▸h1.facts.2.2.1,h1.facts.2.2.2.1⟩
theorem MpTo.of {a:Pool}{ids:List Nat}{lst:Cnt}(h:RtTo W0 E H K M I b G w w' a ids its gv lst)(hR:fnM a.ents=R)(hn:a.ents.length=n):MpTo W0 E H K M I b G w w' R n its gv:=by
 obtain⟨F,h1,h2,h3⟩:=h;exact⟨F,⟨a,ids,lst,h1,hR,hn⟩,h2,h3⟩
theorem mp_New (H:Nat→Nat)(hE:Env W0 E w)(k m i:Int)(hcf:cfgOk k m i=true)(K M I:Nat)(hkm:(1≤K∧K≤64)∧(1≤M∧M≤192)∧k=(K:Int)∧m=(M:Int)∧i=(I:Int))(hi8:1≤I∧I≤8):Calls Tryz.prog 17 #[cfgV k m i] w fun y w'=>∃b G,y= .returned (.tuple #[.pointer (some ⟨b,0,none⟩),.nilIface])∧MpAt W0 E H K M I b G w' (fun _=>none) 0 [] 0∧(∀q∈G,w.heap.size≤q)∧Below w.heap.size w w':=by
 refine(rt_New H hE k m i hcf K M I hkm hi8).mono ?_;rintro y w' ⟨b,G,rfl,h1,h2,h3⟩;exact⟨b,G,rfl,⟨_,_,_,h1,rfl,rfl⟩,h2,h3⟩
theorem mp_Put (h:MpAt W0 E H K M I b G w R n its gv)(e:Ent)(he:EntOk H e):Calls Tryz.prog 18 #[.pointer (some ⟨b,0,none⟩),.int .u64 (e.key:Int),.int .u64 (e.val:Int),.int .u64 (e.hash:Int)] w fun y w'=>
  y= .returned (errV E (if noRoom M (R e.key) n then 2 else 0))∧MpTo W0 E H K M I b G w w' (putF M R n e.key e.val) (putN M (R e.key) n) its gv:=by
 obtain⟨a,ids,lst,h1,rfl,rfl⟩:=h;refine(rt_Put h1 e he).mono ?_;rintro y w' ⟨rfl,a',ids',lst',hto,hp,_⟩;obtain⟨F,hF,hs,hm⟩:=hto;have h2:=fnM_put h1.facts.2.1 hF.facts.2.1 hp;exact⟨by unfold putC;rw[fullM],F,⟨a',ids',lst',hF,h2.1,h2.2⟩,hs,hm⟩
end
end Go.Proofs.YthfgacnlojmmfaaGreatDoor

/-! A partial function as a row of pairs, rising by keys: looked up, put, taken out. No program in sight. -/
namespace Go.Proofs.YthfgacnlojmmfaaGreatDoor.AmL
set_option maxRecDepth 100000
set_option maxHeartbeats 4000000
open Go.RowKit AmC AmL
variable {p : Nat × Nat} {k v : Nat}
abbrev PL:=List (Nat×Nat)
def AscP (l:PL):Prop:=l.Pairwise fun a b=>a.1<b.1
def lowP (l:PL)(k:Nat):Nat:=l.countP fun p=>decide (p.1<k)
def isP (l:PL)(k:Nat):Bool:=(l[lowP l k]?).any fun p=>p.1==k
def getP (l:PL)(k:Nat):Option Nat:=(l.find? fun p=>p.1==k).map Prod.snd
def putP (l:PL)(k v:Nat):PL:=if isP l k then l.set (lowP l k) (k,v)else l.take (lowP l k)++(k,v)::l.drop (lowP l k)
def delP (l:PL)(k:Nat):PL:=if isP l k then l.eraseIdx (lowP l k)else l
theorem lowP_le (l:PL)(k:Nat):lowP l k≤l.length:=List.countP_le_length
theorem lowP_lt:∀{l:PL} {k i:Nat} {p:Nat×Nat},AscP l→l[i]?=some p→(i<lowP l k↔p.1<k)
 | [],_,_,_,_,h=>by simp at h
 |x::l,k,i,p,ha,h=>by
  have ha':=List.pairwise_cons.1 ha;unfold lowP;rw[List.countP_cons];by_cases hx:x.1<k
  ·simp only[hx,decide_true,if_true]
   cases i with
   |zero=>obtain rfl:=Option.some.inj h;simp[hx]
   |succ i=>
    have:=lowP_lt (k:=k) (i:=i) ha'.2 h;unfold lowP at this;omega
  ·simp only[hx,decide_false]
   have h0:l.countP (fun p=>decide (p.1<k))=0:=by
    rw[List.countP_eq_zero];intro y hy hd;have h1:=ha'.1 y hy
    have h2:y.1<k:=by simpa using hd
    omega
   rw[h0]
   have hp:x.1≤p.1:=by
    cases i with
    |zero=>obtain rfl:=Option.some.inj h;exact Nat.le_refl _
    |succ i=>exact Nat.le_of_lt (ha'.1 p (List.mem_of_getElem? h))
   simp;omega
theorem asc_at {l:PL}(h:AscP l){i j:Nat}{q:Nat×Nat}(hij:i<j)(hp:l[i]?=some p)(hq:l[j]?=some q):p.1<q.1:=by
 obtain⟨h1,rfl⟩:=List.getElem?_eq_some_iff.1 hp;obtain⟨h2,rfl⟩:=List.getElem?_eq_some_iff.1 hq;exact List.pairwise_iff_getElem.1 h i j h1 h2 hij
theorem asc_of {l:PL}(h:∀(i j:Nat) (p q:Nat×Nat),i<j→l[i]?=some p→l[j]?=some q→p.1<q.1):AscP l:=
 List.pairwise_iff_getElem.2 fun i j h1 h2 hij=>h i j _ _ hij (List.getElem?_eq_getElem h1) (List.getElem?_eq_getElem h2)
theorem getP_mem {l:PL}(ha:AscP l):getP l k=some v↔(k,v)∈l:=by
 unfold getP;constructor
 ·intro h;obtain⟨p,hp,rfl⟩:=Option.map_eq_some_iff.1 h;have h1:=List.find?_some hp;have h2:=List.mem_of_find?_eq_some hp
  have:p.1=k:=by simpa using h1
  rw[←this];exact h2
 ·intro h
  cases hf:l.find? fun p=>p.1==k with
  |none=>
   have:=List.find?_eq_none.1 hf _ h;simp at this
  |some p=>
   have h1:p.1=k:=by simpa using List.find?_some hf
   obtain⟨i,hi⟩:=List.getElem?_of_mem h;obtain⟨j,hj⟩:=List.getElem?_of_mem (List.mem_of_find?_eq_some hf)
   have hij:i=j:=by
    rcases Nat.lt_trichotomy i j with hl|hl|hl
    ·have:=asc_at ha hl hi hj;simp only at this;omega
    ·exact hl
    ·have:=asc_at ha hl hj hi;simp only at this;omega
   subst hij;rw[hi]at hj;obtain rfl:=Option.some.inj hj;rfl
theorem getP_none {l:PL}:getP l k=none↔∀p∈l,p.1≠k:=by
 unfold getP;rw[Option.map_eq_none_iff,List.find?_eq_none];simp
theorem isP_iff {l:PL}(ha:AscP l):isP l k=true↔∃v,l[lowP l k]?=some (k,v)∧getP l k=some v:=by
 unfold isP
 cases h:l[lowP l k]? with
 |none=>simp
 |some p=>
  simp only[Option.any_some];constructor
  ·intro hk
   have hk':p.1=k:=by simpa using hk
   subst hk';exact⟨p.2,rfl,(getP_mem ha).2 (List.mem_of_getElem? h)⟩
  ·rintro⟨v,hv,_⟩;obtain rfl:=Option.some.inj hv;simp
theorem isP_false {l:PL}(ha:AscP l)(h:isP l k=false):getP l k=none:=by
 rw[getP_none];intro p hp he;obtain⟨i,hi⟩:=List.getElem?_of_mem hp;have h1:=lowP_lt (k:=k) ha hi
 have hge:lowP l k≤i:=by omega
 have hlt:lowP l k<l.length:=by have:=(List.getElem?_eq_some_iff.1 hi).1;omega
 obtain⟨q,hq⟩:∃q,l[lowP l k]?=some q:=⟨_,List.getElem?_eq_getElem hlt⟩;have h2:=not_congr (lowP_lt (k:=k) ha hq);rcases Nat.lt_or_eq_of_le hge with hl|hl
 ·have:=asc_at ha hl hq hi;omega
 ·unfold isP at h;rw[hl,hi]at h;simp[he]at h
theorem isP_get {l:PL}(ha:AscP l)(k:Nat):isP l k=(getP l k).isSome:=by
 cases h:isP l k with
 |true=>obtain⟨v,_,h2⟩:=(isP_iff ha).1 h;rw[h2];rfl
 |false=>rw[isP_false ha h];rfl
theorem putP_mem {l:PL}(ha:AscP l):p∈putP l k v↔p=(k,v)∨(p∈l∧p.1≠k):=by
 unfold putP;by_cases hk:isP l k=true
 ·rw[if_pos hk];obtain⟨u,hu,_⟩:=(isP_iff ha).1 hk;obtain⟨hlt,hu'⟩:=List.getElem?_eq_some_iff.1 hu;constructor
  ·intro h;obtain⟨i,hi⟩:=List.getElem?_of_mem h;rw[List.getElem?_set]at hi;by_cases he:lowP l k=i
   ·rw[if_pos he,if_pos hlt]at hi;exact .inl (Option.some.inj hi).symm
   ·rw[if_neg he]at hi;refine .inr ⟨List.mem_of_getElem? hi,fun hke=>he ?_⟩;rcases Nat.lt_trichotomy (lowP l k) i with hl|hl|hl
    ·have:=asc_at ha hl hu hi;simp only at this;omega
    ·exact hl
    ·have:=asc_at ha hl hi hu;simp only at this;omega
  ·rintro(rfl|⟨h,hne⟩)
   ·exact List.mem_of_getElem? (i:=lowP l k) (by rw[List.getElem?_set,if_pos rfl,if_pos hlt])
   ·obtain⟨i,hi⟩:=List.getElem?_of_mem h;refine List.mem_of_getElem? (i:=i) ?_;rw[List.getElem?_set,if_neg,hi];intro he;subst he;rw[hu]at hi;obtain rfl:=Option.some.inj hi;exact hne rfl
 ·rw[if_neg hk];have h0:=getP_none.1 (isP_false ha (by simpa using hk));rw[List.mem_append,List.mem_cons];constructor
  ·rintro(h|h|h)
   ·exact .inr ⟨List.mem_of_mem_take h,h0 p (List.mem_of_mem_take h)⟩
   ·exact .inl h
   ·exact .inr ⟨List.mem_of_mem_drop h,h0 p (List.mem_of_mem_drop h)⟩
  ·rintro(h|⟨h,_⟩)
   ·exact .inr (.inl h)
   ·rw[←List.take_append_drop (lowP l k) l,List.mem_append]at h;rcases h with h|h
    ·exact .inl h
    ·exact .inr (.inr h)
theorem putP_asc {l:PL}(ha:AscP l)(k v:Nat):AscP (putP l k v):=by
 unfold putP;by_cases hk:isP l k=true
 ·rw[if_pos hk];obtain⟨u,hu,_⟩:=(isP_iff ha).1 hk
  have key:∀(i:Nat) (p:Nat×Nat),(l.set (lowP l k) (k,v))[i]?=some p→∃p':Nat×Nat,l[i]?=some p'∧p'.1=p.1:=by
   intro i p hi;rw[List.getElem?_set]at hi;by_cases he:lowP l k=i
   ·rw[if_pos he]at hi;split at hi
    ·obtain rfl:=Option.some.inj hi;exact⟨(k,u),he▸hu,rfl⟩
    ·cases hi
   ·rw[if_neg he]at hi;exact⟨p,hi,rfl⟩
  refine asc_of fun i j p q hij hp hq=> ?_;obtain⟨p',h1,e1⟩:=key i p hp;obtain⟨q',h2,e2⟩:=key j q hq;have:=asc_at ha hij h1 h2;omega
 ·rw[if_neg hk];have h0:=getP_none.1 (isP_false ha (by simpa using hk))
  have hlow:∀p∈l.take (lowP l k),p.1<k:=by
   intro p hp;obtain⟨i,hi⟩:=List.getElem?_of_mem hp;rw[List.getElem?_take]at hi;split at hi
   ·next hlt=>exact(lowP_lt ha hi).1 hlt
   ·cases hi
  have hhigh:∀p∈l.drop (lowP l k),k<p.1:=by
   intro p hp;have hne:=h0 p (List.mem_of_mem_drop hp);obtain⟨i,hi⟩:=List.getElem?_of_mem hp;rw[List.getElem?_drop]at hi;have:=not_congr (lowP_lt (k:=k) ha hi);omega
  unfold AscP;rw[List.pairwise_append,List.pairwise_cons];refine⟨ha.sublist (List.take_sublist _ _),⟨fun p hp=>hhigh p hp,ha.sublist (List.drop_sublist _ _)⟩,fun p hp q hq=> ?_⟩;have h1:=hlow p hp;rcases List.mem_cons.1 hq with rfl|hq
  ·exact h1
  ·have:=hhigh q hq;omega
theorem putP_get {l:PL}(ha:AscP l)(k v k':Nat):getP (putP l k v) k'=if k'=k then some v else getP l k':=by
 have hb:=putP_asc ha k v;by_cases hk:k'=k
 ·subst hk;rw[if_pos rfl];exact(getP_mem hb).2 ((putP_mem ha).2 (.inl rfl))
 ·rw[if_neg hk]
  cases h:getP l k' with
  |some u=>exact(getP_mem hb).2 ((putP_mem ha).2 (.inr ⟨(getP_mem ha).1 h,hk⟩))
  |none=>
   rw[getP_none]at h⊢;intro p hp;rcases(putP_mem ha).1 hp with rfl|⟨h1,_⟩
   ·exact fun e=>hk e.symm
   ·exact h p h1
theorem putP_length {l:PL}(ha:AscP l)(k v:Nat):(putP l k v).length=if(getP l k).isSome then l.length else l.length+1:=by
 rw[←isP_get ha];unfold putP;by_cases hk:isP l k=true
 ·rw[if_pos hk,if_pos hk,List.length_set]
 ·rw[if_neg hk,if_neg hk,List.length_append,List.length_cons,List.length_take,List.length_drop];have:=lowP_le l k;omega
theorem asc_ext:∀{l m:PL},AscP l→AscP m→(∀p,p∈l↔p∈m)→l=m
 | [],[],_,_,_=>rfl
 | [],y::m,_,_,h=>by have:=(h y).2 (by simp);simp at this
 |x::l,[],_,_,h=>by have:=(h x).1 (by simp);simp at this
 |x::l,y::m,hl,hm,h=>by
  have hl':=List.pairwise_cons.1 hl;have hm':=List.pairwise_cons.1 hm
  have hxy:x=y:=by
   rcases List.mem_cons.1 ((h x).1 (by simp))with e|e
   ·exact e
   ·rcases List.mem_cons.1 ((h y).2 (by simp))with e2|e2
    ·exact e2.symm
    ·have:=hm'.1 x e;have:=hl'.1 y e2;omega
  subst hxy;congr 1;refine asc_ext hl'.2 hm'.2 fun p=>⟨fun hp=> ?_,fun hp=> ?_⟩
  ·rcases List.mem_cons.1 ((h p).1 (by simp[hp]))with rfl|e
   ·have:=hl'.1 _ hp;omega
   ·exact e
  ·rcases List.mem_cons.1 ((h p).2 (by simp[hp]))with rfl|e
   ·have:=hm'.1 _ hp;omega
   ·exact e
theorem asc_same {l m:PL}(hl:AscP l)(hm:AscP m)(h:∀k,getP l k=getP m k):l=m:=
 asc_ext hl hm fun p=>by rw[←getP_mem hl (k:=p.1) (v:=p.2),←getP_mem hm (k:=p.1) (v:=p.2),h]
def allP (l:PL):PL:=l.foldl (fun t p=>putP t p.1 p.2) []
theorem allP_snoc (l:PL)(p:Nat×Nat):allP (l++[p])=putP (allP l) p.1 p.2:=by unfold allP;rw[List.foldl_append];rfl
theorem foldP_asc:∀(l t:PL),AscP t→AscP (l.foldl (fun t p=>putP t p.1 p.2) t)
 | [],_,h=>h
 |p::l,_,h=>foldP_asc l _ (putP_asc h p.1 p.2)
theorem allP_asc (l:PL):AscP (allP l):=foldP_asc l [] List.Pairwise.nil
theorem foldP_mem:∀(l t:PL),AscP t→(l.map Prod.fst).Nodup→(∀p∈l,getP t p.1=none)→(∀q,q∈l.foldl (fun t p=>putP t p.1 p.2) t↔q∈t∨q∈l)∧(l.foldl (fun t p=>putP t p.1 p.2) t).length=t.length+l.length
 | [],t,_,_,_=>by simp
 |p::l,t,ht,hn,hd=>by
  rw[List.map_cons,List.nodup_cons]at hn;have hp:=hd p (by simp)
  have ih:=foldP_mem l (putP t p.1 p.2) (putP_asc ht _ _) hn.2 (fun q hq=>by
   rw[putP_get ht,if_neg (fun e:q.1=p.1=>hn.1 (e▸List.mem_map_of_mem hq))]
   exact hd q (by simp[hq]))
  rw[putP_length ht,hp]at ih;refine⟨fun q=> ?_, ?_⟩
  ·rw[List.foldl_cons,ih.1 q,putP_mem ht,List.mem_cons];constructor
   ·rintro((h|h)|h)
    ·exact .inr (.inl h)
    ·exact .inl h.1
    ·exact .inr (.inr h)
   ·rintro(h|h|h)
    ·exact .inl (.inr ⟨h,(getP_none.1 hp) q h⟩)
    ·exact .inl (.inl h)
    ·exact .inr h
  ·rw[List.foldl_cons,ih.2];simp;omega
theorem allP_mem {l:PL}(hn:(l.map Prod.fst).Nodup):(∀q,q∈allP l↔q∈l)∧(allP l).length=l.length:=by
 have:=foldP_mem l [] List.Pairwise.nil hn (fun _ _=>rfl);refine⟨fun q=> ?_, ?_⟩
 ·rw[allP,this.1 q];simp
 ·rw[allP,this.2];simp
end Go.Proofs.YthfgacnlojmmfaaGreatDoor.AmL

/-! A copy of elements of any size, and what it leaves of a row of the call's own. No program in sight. -/
namespace Go.Proofs.YthfgacnlojmmfaaGreatDoor
set_option maxRecDepth 100000
set_option maxHeartbeats 4000000
open Go.RowKit AmC AmL
variable {d n o : Nat}
theorem run_copyK {P:Program}(w:World)(dT sT ty elem:TypeId)(sz g o dLen dCap:Nat)(a:Addr)(sLen sCap:Nat)(cur:Array Value)(t:TypeId)(cs:List Value)(hu:P.underlying dT=some (.slice elem))(hs:(P.info? elem).map (·.size)=some sz)(hg:w.heap[g]?=some (.cells cur t (0,0)))(hn:cs.length=Nat.min sLen dLen*sz)(hsrc:∀j v,cs[j]?=some v→w.cell? (a.add j)=some v)(hfit:o+cs.length≤cur.size)(h1:∀v∈cs,v.oneCell'=true):
  (Builtin.copy_ #[dT,sT] ty #[.slice (some ⟨g,o,none⟩) dLen dCap,.slice (some a) sLen sCap]).run P w=
   .ok (goInt (Nat.min sLen dLen)) (w.setRow g (splice cur.toList o cs).toArray):=by
 have hl:=run_loadCells_list (P:=P) w a cs hsrc;have hst:=run_storeCells_at P g o t cs 0 cur w hg (by simpa using hfit) h1
 cases hq:P.info? elem with
 |none=>simp[hq]at hs
 |some i=>
  have hi:i.size=sz:=by simpa[hq]using hs
  simp[Builtin.copy_,run_underlying hu,Builtin.lenOf,Builtin.firstCells,sizeOf,typeInfo,hq,hi,←hn,hl,hst,splice]
section
variable {α : Type} {L cs xs vs : List α}
theorem at_splice (ho:o≤L.length)(j:Nat):(splice L o cs)[j]?=if j<o then L[j]? else if j<o+cs.length then cs[j-o]? else L[j]?:=by
 unfold splice;by_cases h1:j<o
 ·rw[if_pos h1,List.getElem?_append_left (by rw[List.length_take];omega),List.getElem?_take_of_lt h1]
 ·rw[if_neg h1,List.getElem?_append_right (by rw[List.length_take];omega),List.length_take,Nat.min_eq_left ho];by_cases h2:j<o+cs.length
  ·rw[if_pos h2,List.getElem?_append_left (by omega)]
  ·rw[if_neg h2,List.getElem?_append_right (by omega),List.getElem?_drop];congr 1;omega
theorem splice_len (h:o+cs.length≤L.length):(splice L o cs).length=L.length:=length_splice L o cs h
theorem ins_shift (hx:L.take n=xs)(hd:d≤n)(hn:n+vs.length≤L.length):(splice (splice L (d+vs.length) (xs.drop d)) d vs).take (n+vs.length)=xs.take d++(vs++xs.drop d):=by
 have hl:xs.length=n:=by rw[←hx,List.length_take];omega
 have h1:(splice L (d+vs.length) (xs.drop d)).length=L.length:=splice_len (by rw[List.length_drop];omega);apply List.ext_getElem?;intro j;by_cases hj:j<n+vs.length
 ·rw[List.getElem?_take_of_lt hj,at_splice (by omega)];by_cases j1:j<d
  ·rw[if_pos j1,at_splice (by omega),if_pos (by omega),List.getElem?_append_left (by rw[List.length_take];omega),List.getElem?_take_of_lt j1,←hx,List.getElem?_take_of_lt (by omega)]
  ·rw[if_neg j1,List.getElem?_append_right (by rw[List.length_take];omega),List.length_take,Nat.min_eq_left (by omega)];by_cases j2:j<d+vs.length
   ·rw[if_pos j2,List.getElem?_append_left (by omega)]
   ·rw[if_neg j2,at_splice (by omega),if_neg j2,if_pos (by rw[List.length_drop];omega),List.getElem?_append_right (by omega)];congr 1;omega
 ·rw[List.getElem?_eq_none (by rw[List.length_take];omega),List.getElem?_eq_none (by simp;omega)]
theorem ins_grow {Z:List α}(hl:xs.length=n)(hd:d≤n)(hZ:n+vs.length-d≤Z.length):(splice (splice (xs.take d++Z) d vs) (d+vs.length) (xs.drop d)).take (n+vs.length)=xs.take d++(vs++xs.drop d):=by
 have h0:(xs.take d++Z).length=d+Z.length:=by rw[List.length_append,List.length_take];omega
 have h1:(splice (xs.take d++Z) d vs).length=d+Z.length:=by rw[splice_len (by omega),h0]
 apply List.ext_getElem?;intro j;by_cases hj:j<n+vs.length
 ·rw[List.getElem?_take_of_lt hj,at_splice (by omega)];by_cases j1:j<d
  ·rw[if_pos (by omega),at_splice (by omega),if_pos j1,List.getElem?_append_left (by rw[List.length_take];omega),List.getElem?_append_left (by rw[List.length_take];omega)]
  ·rw[List.getElem?_append_right (by rw[List.length_take];omega),List.length_take,Nat.min_eq_left (by omega)];by_cases j2:j<d+vs.length
   ·rw[if_pos j2,at_splice (by omega),if_neg j1,if_pos j2,List.getElem?_append_left (by omega)]
   ·rw[if_neg j2,if_pos (by rw[List.length_drop];omega),List.getElem?_append_right (by omega)];congr 1;omega
 ·rw[List.getElem?_eq_none (by rw[List.length_take];omega),List.getElem?_eq_none (by simp;omega)]
end
theorem own_setRow {w:World}{base g cap sz:Nat}{t:TypeId}{cur cur':Array Value}{xs:List Value}(hg:w.heap[g]?=some (.cells cur t (0,0)))(hb:base≤g)(hc:n≤cap)(hm:cap≤maxLen)(hs:cur'.size=cap*sz)(hx:cur'.toList.take (n*sz)=xs):
  (w.setRow g cur').ownsRow base t sz (.slice (some ⟨g,0,none⟩) n cap) n xs∧Mod [g] w (w.setRow g cur'):=by
 have hlt:g<w.heap.size:=(Array.getElem?_eq_some_iff.1 hg).1;refine⟨⟨?_,.inr ⟨g,cap,cur',rfl,hb,setRow_heap w g cur cur' t (0,0) hg,hc,hm,hs,hx⟩⟩,rfl,rfl,rfl,by simp[World.setRow],fun k hk hne=>setRow_other w g k cur' (fun e=>hne (by simp[e]))⟩;rw[←hx,List.length_take,Array.length_toList,hs];have:=Nat.mul_le_mul_right sz hc;omega
end Go.Proofs.YthfgacnlojmmfaaGreatDoor

/-! A function as a rising row of pairs: its block, its row; a key found by halves. No statement of the claim. -/
namespace Go.Proofs.YthfgacnlojmmfaaGreatDoor
set_option maxRecDepth 100000
set_option maxHeartbeats 4000000
open Go.RowKit AmC AmL
def pairC (p:Nat×Nat):List Value:=[.int .u64 (p.1:Int),.int .u64 (p.2:Int)]
theorem pairC_at {p:Nat×Nat}{q:Nat}:∀{l:PL} {i:Nat},l[i]?=some p→q<2→(l.flatMap pairC)[i*2+q]?=some ((pairC p)[q]!)
 | [],_,h,_=>by simp at h
 |x::l,0,h,hq=>by
  obtain rfl:=Option.some.inj h;rw[List.flatMap_cons,List.getElem?_append_left (by simp[pairC];omega)]
  have:q=0∨q=1:=by omega
  rcases this with rfl|rfl<;>rfl
 |x::l,i+1,h,hq=>by
  rw[List.flatMap_cons,List.getElem?_append_right (by simp[pairC];omega)];have:=pairC_at (l:=l) (i:=i) h hq;rw[show(i+1)*2+q-(pairC x).length=i*2+q by simp[pairC];omega];exact this
theorem pairC_length (l:PL):(l.flatMap pairC).length=l.length*2:=by
 induction l with
 |nil=>rfl
 |cons x l ih=>rw[List.flatMap_cons,List.length_append,ih,List.length_cons];simp[pairC];omega
theorem pairC_one (l:PL):∀v∈l.flatMap pairC,v.oneCell'=true:=by
 intro v hv;obtain⟨p,_,hp⟩:=List.mem_flatMap.1 hv;simp only[pairC,List.mem_cons,List.not_mem_nil,or_false]at hp
 rcases hp with rfl|rfl<;>rfl
theorem pairC_take (l:PL)(i:Nat):(l.flatMap pairC).take (i*2)=(l.take i).flatMap pairC:=by
 by_cases hi:i≤l.length
 ·have h:=congrArg (List.flatMap pairC) (List.take_append_drop i l);rw[List.flatMap_append]at h;rw[←h,List.take_append_of_le_length (by rw[pairC_length,List.length_take];omega),List.take_of_length_le (by rw[pairC_length,List.length_take];omega)]
 ·rw[List.take_of_length_le (by rw[pairC_length];omega),List.take_of_length_le (by omega)]
theorem pairC_drop (l:PL)(i:Nat):(l.flatMap pairC).drop (i*2)=(l.drop i).flatMap pairC:=by
 have h:=congrArg (List.flatMap pairC) (List.take_append_drop i l);rw[List.flatMap_append]at h;by_cases hi:i≤l.length
 ·rw[←h,List.drop_append_of_le_length (by rw[pairC_length,List.length_take];omega),List.drop_of_length_le (by rw[pairC_length,List.length_take];omega),List.nil_append]
 ·rw[List.drop_of_length_le (by rw[pairC_length];omega),List.drop_of_length_le (by omega)];rfl
theorem pairC_set {l:PL}{i:Nat}(h:i<l.length)(k v:Nat)(hk:(l[i]?).map Prod.fst=some k):(l.flatMap pairC).set (i*2+1) (.int .u64 (v:Int))=(l.set i (k,v)).flatMap pairC:=by
 induction l generalizing i with
 |nil=>simp at h
 |cons x l ih=>
  cases i with
  |zero=>
   have:x.1=k:=by simpa using hk
   simp[pairC,this]
  |succ i=>
   rw[List.set_cons_succ,List.flatMap_cons,List.flatMap_cons,←ih (by simpa using h) (by simpa using hk),List.set_append_right _ _ (by simp[pairC];omega)];congr 2;simp[pairC];omega
theorem info_PlPair:(Tryz.prog.info? 35).map (fun i=>(i.zero,i.size,i.bytes))=some (some (.agg #[.int .u64 0,.int .u64 0]),2,16):=by kernel_rfl
def PlF (base:Nat)(w:World)(fb most:Nat)(F:List Nat)(l:PL):Prop:=
 ∃v,Blk w fb 60 #[.int .i64 (most:Int),v]∧w.ownsRow base 35 2 v l.length (l.flatMap pairC)∧F=fb::v.ownBlock.toList∧base≤fb∧AscP l
def PlTo (base:Nat)(w w':World)(fb most:Nat)(F:List Nat)(l:PL):Prop:=
 ∃F',PlF base w' fb most F' l∧(∀q∈F',q∈F∨w.heap.size≤q)∧Mod F w w'
theorem own_typ {w:World}{base n g sz:Nat}{e t:TypeId}{v:Value}{xs:List Value}{cs:Array Value}(h:w.ownsRow base e sz v n xs)(hB:Blk w g t cs)(ht:t≠e):g∉v.ownBlock.toList:=by
 intro hg
 have hg':v.ownBlock=some g:=by simpa using hg
 rcases h.2 with⟨rfl,_⟩|⟨g',cap,cur,rfl,_,hh,_⟩
 ·cases hg'
 ·have:g'=g:=by simpa[Value.ownBlock]using hg'
  subst this;have h1:w.heap[g']?=some (.cells cs t (0,0)):=hB;rw[hh]at h1
  injection h1 with h1
  injection h1 with _ h1 _
  exact ht h1.symm
section
variable {base most fb n : Nat} {w w' : World} {F S : List Nat} {l l' : PL}
theorem PlF.lts (h:PlF base w fb most F l):∀q∈F,q<w.heap.size∧base≤q:=by
 obtain⟨v,h1,h2,rfl,h3,_⟩:=h;intro q hq;rcases List.mem_cons.1 hq with rfl|hq
 ·exact⟨h1.lt,h3⟩
 ·have:=h2.lt q (by simpa using hq);exact⟨this.2,this.1⟩
theorem PlF.mod (h:PlF base w fb most F l)(hm:Mod S w w')(hS:∀q∈S,q∉F):PlF base w' fb most F l:=by
 obtain⟨v,h1,h2,rfl,h3⟩:=h;refine⟨v,h1.mod hm (fun hq=>hS fb hq (by simp)),⟨h2.1, ?_⟩,rfl,h3⟩;rcases h2.2 with k|⟨g,cap,cur,rfl,k2,k3,k4⟩
 ·exact .inl k
 ·refine .inr ⟨g,cap,cur,rfl,k2, ?_,k4⟩;rw[hm.block g (Array.getElem?_eq_some_iff.1 k3).1 (fun hq=>hS g hq (by simp[Value.ownBlock]))];exact k3
theorem PlF.below (h:PlF base w fb most F l)(hb:Below w.heap.size w w'):PlF base w' fb most F l:=h.mod (Mod.of_below hb []) (by simp)
theorem PlF.asc (h:PlF base w fb most F l):AscP l:=by
 obtain⟨v,_,_,_,_,h⟩:=h;exact h
end
def cmpKey (a b:Nat):Int:=if a<b then-1 else if b<a then 1 else 0
theorem isNaN_key (x:Int)(w:World):Calls Tryz.prog 118 #[.int .u64 x] w fun y w'=>y= .returned (.bool false)∧w=w':=by
 go_in;go_wp2;go_ret;exact⟨by simp,rfl⟩
theorem compare_key (a b:Nat)(w:World):Calls Tryz.prog 82 #[.int .u64 (a:Int),.int .u64 (b:Int)] w fun e w'=>e= .returned (.int .i64 (cmpKey a b))∧w=w':=by
 have HN:=qd (fun(z:Int) (W:World)=>isNaN_key z W);obtain⟨v,hv⟩:∃v,v=cmpKey a b:=⟨_,rfl⟩;rw[←hv];rcases Nat.lt_trichotomy a b with h|h|h
 ·have h1:(a:Int)<(b:Int):=by omega
  obtain rfl:v= -1:=by rw[hv];unfold cmpKey;rw[if_pos h]
  clear hv h;go_in;go_wp2_with fail;refine(HN.out _ _).mono ?_;rintro e wq ⟨rfl,rfl⟩;go_wp2_with fail;refine(HN.out _ _).mono ?_;rintro e wq ⟨rfl,rfl⟩;go_wp2;go_ret;exact⟨rfl,rfl⟩
 ·subst h
  obtain rfl:v=0:=by rw[hv];unfold cmpKey;simp
  clear hv;go_in;go_wp2_with fail;refine(HN.out _ _).mono ?_;rintro e wq ⟨rfl,rfl⟩;go_wp2_with fail;refine(HN.out _ _).mono ?_;rintro e wq ⟨rfl,rfl⟩;go_wp2;go_ret;exact⟨rfl,rfl⟩
 ·have h1:¬(a:Int)<(b:Int):=by omega
  have h2:(b:Int)<(a:Int):=by omega
  obtain rfl:v=1:=by rw[hv];unfold cmpKey;rw[if_neg (by omega),if_pos h]
  clear hv h;go_in;go_wp2_with fail;refine(HN.out _ _).mono ?_;rintro e wq ⟨rfl,rfl⟩;go_wp2_with fail;refine(HN.out _ _).mono ?_;rintro e wq ⟨rfl,rfl⟩;go_wp2;go_ret;exact⟨rfl,rfl⟩
theorem pl_byKey (p:Nat×Nat)(key:Nat)(w:World):Calls Tryz.prog 50 #[.agg #[.int .u64 (p.1:Int),.int .u64 (p.2:Int)],.int .u64 (key:Int)] w fun e w'=>e= .returned (.int .i64 (cmpKey p.1 key))∧Below w.heap.size w w':=by
 have HC:=qd (fun(W:World)=>compare_key p.1 key W);go_in;go_wp2_with fail;refine(HC.out _).mono ?_;rintro e wq ⟨rfl,rfl⟩;go_wp2;go_ret;exact⟨rfl,(Below.refl w.heap.size w).alloc (Nat.le_refl _) _⟩
end Go.Proofs.YthfgacnlojmmfaaGreatDoor
