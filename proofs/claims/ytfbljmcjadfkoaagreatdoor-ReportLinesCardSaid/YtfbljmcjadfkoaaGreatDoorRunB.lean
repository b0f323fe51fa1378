/- A map's Close and Clear by their contracts. No statement of the claim. -/
import Derived.Test.YtfbljmcjadfkoaaGreatDoorRmJ
import Derived.Test.YtfbljmcjadfkoaaGreatDoorSqM
import Derived.Test.YtfbljmcjadfkoaaGreatDoorSqT
import Derived.Test.YtfbljmcjadfkoaaGreatDoorSq
import Derived.Test.YtfbljmcjadfkoaaGreatDoorCoCS
import Derived.Test.YtfbljmcjadfkoaaGreatDoorCoBW
import Derived.Test.YtfbljmcjadfkoaaGreatDoorCoH
import Derived.Test.YtfbljmcjadfkoaaGreatDoorGaugeA
import Derived.Test.YtfbljmcjadfkoaaGreatDoorCoA
import Derived.Test.YtfbljmcjadfkoaaGreatDoorScriptD
namespace Go.Proofs.YtfbljmcjadfkoaaGreatDoor
set_option maxRecDepth 100000
set_option maxHeartbeats 8000000
open Go.RowKit AmC AmF AmS
variable {I Kk M b gv ib j mb : Nat} {its : List It} {H : Nat → Nat} {a : Pool} {W0 w : World} {E : Nat → Addr} {G ids : List Nat} {lst : Cnt}
theorem groups_small (h:∀(i:Nat) (N:Nd),a.Ns[i]?=some N→NOk H N)(h32:a.Ns.length≤32):a.groups≤6144:=by
 have hs:∀l:List Nd,(∀N∈l,N.groups≤192)→(l.map Nd.groups).sum≤192*l.length:=fun l=>by
  induction l with
  |nil=>simp
  |cons x l ih=>
   intro hx;have h1:=hx x (by simp);have h2:=ih fun N hN=>hx N (by simp[hN]);simp only[List.map_cons,List.sum_cons,List.length_cons];omega
 have:=hs a.Ns fun N hN=>by
  obtain⟨i,hi⟩:=List.getElem?_of_mem hN;exact groups_le (h i N hi)
 unfold Pool.groups;omega
end Go.Proofs.YtfbljmcjadfkoaaGreatDoor

/-! The map as a function of keys, whatever the hashes. No statement of the claim. -/
namespace Go.Proofs.YtfbljmcjadfkoaaGreatDoor
set_option maxRecDepth 100000
set_option maxHeartbeats 8000000
open Go.RowKit AmC AmF AmS
variable {es es' : List Ent} {key : Nat}
def fnM (es:List Ent):Nat→Option Nat:=fun k=>(look es k).map Ent.val
def noRoom (M:Nat)(o:Option Nat)(n:Nat):Bool:=o.isNone && decide (M≤n)
def putF (M:Nat)(R:Nat→Option Nat)(n k v:Nat):Nat→Option Nat:=if noRoom M (R k) n then R else fun x=>if x=k then some v else R x
def putN (M:Nat)(o:Option Nat)(n:Nat):Nat:=if o.isSome||decide (M≤n)then n else n+1
def delF (R:Nat→Option Nat)(k:Nat):Nat→Option Nat:=fun x=>if x=k then none else R x
def delN (o:Option Nat)(n:Nat):Nat:=if o.isSome then n-1 else n
def MpAt (W0:World)(E:Nat→Addr)(H:Nat→Nat)(K M I b:Nat)(G:List Nat)(w:World)(R:Nat→Option Nat)(n:Nat)(its:List It)(gv:Nat):Prop:=
 ∃(a:Pool) (ids:List Nat) (lst:Cnt),RtAt W0 E H K M I b G w a ids its gv lst∧fnM a.ents=R∧a.ents.length=n
def MpTo (W0:World)(E:Nat→Addr)(H:Nat→Nat)(K M I b:Nat)(G:List Nat)(w w':World)(R:Nat→Option Nat)(n:Nat)(its:List It)(gv:Nat):Prop:=
 ∃G',MpAt W0 E H K M I b G' w' R n its gv∧(∀q∈G',q∈G∨w.heap.size≤q)∧Mod G w w'
section
variable {W0 : World} {E : Nat → Addr} {H : Nat → Nat} {K M I b : Nat} {G : List Nat} {w w' : World} {R : Nat → Option Nat} {n : Nat} {its : List It} {gv : Nat}
theorem MpAt.below (h:MpAt W0 E H K M I b G w R n its gv)(hb:Below w.heap.size w w'):MpAt W0 E H K M I b G w' R n its gv:=by
 obtain⟨a,ids,lst,h1,h2⟩:=h;exact⟨a,ids,lst,h1.below hb,h2⟩
theorem MpAt.lts (h:MpAt W0 E H K M I b G w R n its gv):∀q∈G,q<w.heap.size∧W0.heap.size≤q:=by
 obtain⟨a,ids,lst,h1,_⟩:=h;exact h1.facts.1
theorem MpAt.mod {S:List Nat}(h:MpAt W0 E H K M I b G w R n its gv)(hm:Mod S w w')(hS:∀q∈S,q∉G∧W0.heap.size≤q):MpAt W0 E H K M I b G w' R n its gv:=by
 obtain⟨a,ids,lst,h1,h2⟩:=h;exact⟨a,ids,lst,h1.mod hm hS,h2⟩
theorem MpAt.env (h:MpAt W0 E H K M I b G w R n its gv):Env W0 E w:=by
 obtain⟨a,ids,lst,h1,_⟩:=h;exact h1.facts.2.2.2.2.2.2.2.2.2
theorem MpAt.least (h:MpAt W0 E H K M I b G w R n its gv):n≤M∧M≤192:=by
 obtain⟨a,ids,lst,h1,_,h3⟩:=h;exact⟨h3▸h1.facts.2.2.1,h1.facts.2.2.2.1⟩
theorem MpTo.of {a:Pool}{ids:List Nat}{lst:Cnt}(h:RtTo W0 E H K M I b G w w' a ids its gv lst)(hR:fnM a.ents=R)(hn:a.ents.length=n):MpTo W0 E H K M I b G w w' R n its gv:=by
 obtain⟨F,h1,h2,h3⟩:=h;exact⟨F,⟨a,ids,lst,h1,hR,hn⟩,h2,h3⟩
theorem mp_New (H:Nat→Nat)(hE:Env W0 E w)(k m i:Int)(hcf:cfgOk k m i=true)(K M I:Nat)(hkm:(1≤K∧K≤64)∧(1≤M∧M≤192)∧k=(K:Int)∧m=(M:Int)∧i=(I:Int))(hi8:1≤I∧I≤8):Calls Tryz.prog 28 #[cfgV k m i] w fun y w'=>∃b G,y= .returned (.tuple #[.pointer (some ⟨b,0,none⟩),.nilIface])∧MpAt W0 E H K M I b G w' (fun _=>none) 0 [] 0∧(∀q∈G,w.heap.size≤q)∧Below w.heap.size w w':=by
 refine(rt_New H hE k m i hcf K M I hkm hi8).mono ?_;rintro y w' ⟨b,G,rfl,h1,h2,h3⟩;exact⟨b,G,rfl,⟨_,_,_,h1,rfl,rfl⟩,h2,h3⟩
end
end Go.Proofs.YtfbljmcjadfkoaaGreatDoor

/-! amblerref21.Map: find, Get: where a key stands, its value. -/
namespace Go.Proofs.YtfbljmcjadfkoaaGreatDoor
set_option maxRecDepth 100000
set_option maxHeartbeats 8000000
open Go.RowKit AmC AmF AmS
variable {j key m : Nat} {es : List Ent} {e : Ent}
def FindPost (es:List Ent)(key:Nat)(y:Int):Prop:=(∃(i:Nat) (e:Ent),es[i]?=some e∧e.key=key∧y=(i:Int)∧∀k,k<i→∀e',es[k]?=some e'→e'.key≠key)∨((∀e∈es,e.key≠key)∧y= -1)
end Go.Proofs.YtfbljmcjadfkoaaGreatDoor

/-! amblerref21.Map: Put. -/
namespace Go.Proofs.YtfbljmcjadfkoaaGreatDoor
set_option maxRecDepth 100000
set_option maxHeartbeats 8000000
open Go.RowKit AmC AmF AmS
variable {es : List Ent} {j key : Nat} {e : Ent}
def without (es:List Ent)(key j:Nat):List Ent:=(es.take j).filter fun x=>x.key !=key
end Go.Proofs.YtfbljmcjadfkoaaGreatDoor

/-! amblerref21.Map: Delete. -/
namespace Go.Proofs.YtfbljmcjadfkoaaGreatDoor
set_option maxRecDepth 100000
set_option maxHeartbeats 8000000
open Go.RowKit AmC AmF AmS
end Go.Proofs.YtfbljmcjadfkoaaGreatDoor

/-! amblernum.Before; amblerref21.Map: Least. -/
namespace Go.Proofs.YtfbljmcjadfkoaaGreatDoor
set_option maxRecDepth 100000
set_option maxHeartbeats 8000000
open Go.RowKit AmC AmF AmS
end Go.Proofs.YtfbljmcjadfkoaaGreatDoor

/-! amblerref21.Map by its contracts, with where it lies. No statement of the claim. -/
namespace Go.Proofs.YtfbljmcjadfkoaaGreatDoor
set_option maxRecDepth 100000
set_option maxHeartbeats 8000000
open Go.RowKit AmC AmF AmS
section
variable {w w' : World} {base mb M : Nat} {es : List Ent} {R : List Nat}
end
def cutAt (y:Option Ent)(hi:Nat):Option Ent:=match y with|none=>none|some m=>if m.hash≤hi then some m else none
end Go.Proofs.YtfbljmcjadfkoaaGreatDoor

/-! amblerlaw21.walk: going over a core comes to all its entries, in order. -/
namespace Go.Proofs.YtfbljmcjadfkoaaGreatDoor
set_option maxRecDepth 100000
set_option maxHeartbeats 8000000
open Go.RowKit AmC AmF AmS
variable {l : List Ent} {m : Ent} {b base : Nat} {w : World} {v : Value}
def Asc (l:List Ent):Prop:=l.Pairwise fun x y=>lessE x y=true
theorem Asc.nodup (h:Asc l):l.Nodup:=h.imp fun hxy e=>by rw[e,less_irrefl]at hxy;cases hxy
theorem asc_snoc (h:Asc l)(hm:∀e∈l,lessE e m=true):Asc (l++[m]):=List.pairwise_append.2 ⟨h,List.pairwise_singleton _ _,fun x hx y hy=>by rw[List.mem_singleton.1 hy];exact hm x hx⟩
def below_ (hs:List Nat)(b:Nat):Nat:=(hs.filter fun h=>decide (h<b)).length
theorem below_mono (hs:List Nat){a:Nat}(h:a≤b):below_ hs a≤below_ hs b:=by
 unfold below_
 induction hs with
 |nil=>simp
 |cons x l ih=>
  simp only[List.filter_cons];by_cases h1:x<a
  ·rw[if_pos (by simpa using h1),if_pos (by simp;omega)];simp only[List.length_cons];omega
  ·rw[if_neg (by simpa using h1)]
   split<;>(try simp only[List.length_cons])<;>omega
theorem below_more {hs:List Nat}{a x:Nat}(hx:x∈hs)(h1:a≤x)(h2:x<b):below_ hs a+1≤below_ hs b:=by
 obtain⟨s,t,rfl⟩:=List.append_of_mem hx;have g1:=below_mono s (Nat.le_trans h1 (Nat.le_of_lt h2));have g2:=below_mono t (Nat.le_trans h1 (Nat.le_of_lt h2));unfold below_ at g1 g2⊢;rw[List.filter_append,List.filter_append,List.filter_cons,List.filter_cons,if_neg (by simp;omega),if_pos (by simp;omega)];simp only[List.length_append,List.length_cons];omega
theorem below_le (hs:List Nat)(b:Nat):below_ hs b≤hs.length:=List.length_filter_le _ _
structure WalkSt (es:List Ent)(hs:List Nat)(n:Nat)(out:List Ent)(key hash:Nat):Prop where
 asc:Asc out
 mem:∀e,e∈out↔e∈es∧lessE e ⟨key,0,hash⟩=true
 cnt:n≤out.length+below_ hs hash
section
variable {es out : List Ent} {hs : List Nat} {n key hash hi : Nat}
theorem WalkSt.start (es:List Ent)(hs:List Nat):WalkSt es hs 0 [] 0 0:=⟨.nil,fun e=>by simp[lessE],Nat.zero_le _⟩
theorem sub_nodup {l':List Ent}(hn:l.Nodup)(hs:∀x∈l,x∈l'):l.length≤l'.length:=by
 induction l generalizing l' with
 |nil=>exact Nat.zero_le _
 |cons x l ih=>
  rw[List.nodup_cons]at hn;obtain⟨s,t,rfl⟩:=List.append_of_mem (hs x (by simp))
  have h1:=ih (l':=s++t) hn.2 (fun y hy=>by
   have:=hs y (by simp[hy]);simp only[List.mem_append,List.mem_cons]at this⊢;rcases this with h|h|h
   ·exact .inl h
   ·rw[h]at hy;exact absurd hy hn.1
   ·exact .inr h)
  simp only[List.length_append,List.length_cons]at h1⊢;omega
theorem WalkSt.len (h:WalkSt es hs n out key hash):out.length≤es.length:=sub_nodup h.asc.nodup (fun e he=>((h.mem e).1 he).1)
theorem WalkSt.few (h:WalkSt es hs n out key hash)(h1:es.length≤192)(h2:hs.length≤32):n≤224:=by
 have:=h.cnt;have:=h.len;have:=below_le hs hash;omega
theorem WalkSt.some_ (h:WalkSt es hs n out key hash)(hn:(es.map Ent.key).Nodup)(hm:IsLeast ⟨key,0,hash⟩ (upto es hi) (some m)):WalkSt es hs (n+1) (out++[m]) (m.key+1) m.hash∧(∀e∈out,lessE e m=true)∧m.hash≤hi∧m∈es:=by
 obtain⟨m1,m2⟩:=mem_upto.1 hm.1
 have hlt:∀e∈out,lessE e m=true:=fun e he=>by
  have h1:=((h.mem e).1 he).2;have h2:=hm.2.1;simp[lessE]at h1 h2⊢;omega
 have hh:=less_hash hm.2.1;refine⟨⟨asc_snoc h.asc hlt,fun e=>⟨fun he=> ?_,fun he=> ?_⟩, ?_⟩,hlt,m2,m1⟩
 ·rcases List.mem_append.1 he with h1|h1
  ·refine⟨((h.mem e).1 h1).1, ?_⟩;have:=hlt e h1;simp[lessE]at this⊢;omega
  ·rw[List.mem_singleton.1 h1];exact⟨m1,by simp[lessE]⟩
 ·rw[List.mem_append,List.mem_singleton]
  cases hl:lessE e ⟨key,0,hash⟩with
  |true=>exact .inl ((h.mem e).2 ⟨he.1,hl⟩)
  |false=>
   right;have h1:=he.2;have h2:=hm.2.2 e (mem_upto.2 ⟨he.1,by simp[lessE]at h1;omega⟩) hl
   have hk:e.key=m.key:=by simp[lessE]at h1 h2;omega
   have e1:=look_some hn he.1;have e2:=look_some hn m1;rw[hk,e2]at e1;exact(Option.some.inj e1).symm
 ·have:=h.cnt;have:=below_mono hs hh;simp only[List.length_append,List.length_cons,List.length_nil];omega
theorem WalkSt.none_ (h:WalkSt es hs n out key hash)(hm:IsLeast ⟨key,0,hash⟩ (upto es hi) none)(h1:hash≤hi)(h2:hi∈hs):WalkSt es hs (n+1) out 0 (hi+1):=by
 refine⟨h.asc,fun e=>⟨fun he=> ?_,fun he=> ?_⟩, ?_⟩
 ·have:=(h.mem e).1 he;refine⟨this.1, ?_⟩;have h3:=this.2;simp[lessE]at h3⊢;omega
 ·have h3:=he.2;exact(h.mem e).2 ⟨he.1,hm e (mem_upto.2 ⟨he.1,by simp[lessE]at h3;omega⟩)⟩
 ·have:=h.cnt;have:=below_more (b:=hi+1) h2 h1 (by omega);omega
end
end Go.Proofs.YtfbljmcjadfkoaaGreatDoor

/-! Going over a map by an iterator: what it has passed, step by step. No statement of the claim. -/
namespace Go.Proofs.YtfbljmcjadfkoaaGreatDoor
set_option maxRecDepth 100000
set_option maxHeartbeats 8000000
open Go.RowKit AmC AmF AmS
structure Itm where
 st:Nat
 key:Nat
 val:Nat
def Itm.zero:Itm:=⟨0,0,0⟩
def Cur.passed (c:Cur)(e:Ent):Prop:=c.done=true∨lessE e ⟨c.key,0,c.hash⟩=true
inductive NextS (es:List Ent)(hs:List Nat)(c:Cur):Itm→Cur→Prop
 |done (h:c.done=true):NextS es hs c ⟨3,0,0⟩ c
 |yield (h:c.done=false) (hi:Nat) (m:Ent) (h1:c.hash≤hi) (h2:hi∈hs) (h3:hi<18446744073709551616) (h4:∀x∈hs,c.hash≤x→hi≤x) (hm:IsLeast ⟨c.key,0,c.hash⟩ (upto es hi) (some m)):NextS es hs c ⟨1,m.key,m.val⟩ (behind m.hash m.key)
 |skip (h:c.done=false) (hi:Nat) (h1:c.hash≤hi) (h2:hi∈hs) (h3:hi<18446744073709551616) (h4:∀x∈hs,c.hash≤x→hi≤x) (hm:IsLeast ⟨c.key,0,c.hash⟩ (upto es hi) none):NextS es hs c ⟨if hi<18446744073709551615 then 2 else 3,0,0⟩ (behind hi 18446744073709551615)
theorem behind_ok {h k:Nat}(h1:h<18446744073709551616):(behind h k).ok:=by
 unfold behind Cur.ok;split
 ·exact⟨h1,by simp only;omega⟩
 ·split
  ·exact⟨by simp only;omega,by simp⟩
  ·simp
section
variable {es out : List Ent} {hs : List Nat} {n : Nat} {c c' c'' : Cur} {i i' : Itm}
structure Way (es:List Ent)(hs:List Nat)(n:Nat)(out:List Ent)(c:Cur):Prop where
 asc:Asc out
 mem:∀e,e∈out↔e∈es∧c.passed e
 cnt:c.done=false→n≤out.length+below_ hs c.hash
 ok:c.ok
theorem Way.start (es:List Ent)(hs:List Nat):Way es hs 0 [] ⟨0,0,false⟩:=⟨.nil,fun e=>by simp[Cur.passed,lessE],fun _=>Nat.zero_le _,by simp[Cur.ok]⟩
theorem passed_behind {es:List Ent}{hash key:Nat}(h1:hash<18446744073709551616)(h2:key<18446744073709551616)(he:∀e∈es,e.hash<18446744073709551616∧e.key<18446744073709551616){e:Ent}(h:e∈es):(behind hash key).passed e↔lessE e ⟨key+1,0,hash⟩=true:=by
 have:=he e h;unfold behind Cur.passed;split
 ·simp[lessE]
 ·split
  ·simp[lessE];omega
  ·simp[lessE];omega
theorem Way.walkSt (h:Way es hs n out c)(hd:c.done=false):WalkSt es hs n out c.key c.hash:=⟨h.asc,fun e=>by rw[h.mem e];unfold Cur.passed;rw[hd];simp,h.cnt hd⟩
theorem walk_way {hash key:Nat}(h:WalkSt es hs n out (key+1) hash)(h1:hash<18446744073709551616)(h2:key<18446744073709551616)(he:∀e∈es,e.hash<18446744073709551616∧e.key<18446744073709551616):Way es hs n out (behind hash key):=by
 refine⟨h.asc,fun e=>⟨fun hh=> ?_,fun hh=> ?_⟩,fun hd=> ?_,behind_ok h1⟩
 ·obtain⟨g1,g2⟩:=(h.mem e).1 hh;exact⟨g1,(passed_behind h1 h2 he g1).2 g2⟩
 ·exact(h.mem e).2 ⟨hh.1,(passed_behind h1 h2 he hh.1).1 hh.2⟩
 ·have h3:=h.cnt
  have:hash≤(behind hash key).hash:=by
   unfold behind at hd⊢;split
   ·exact Nat.le_refl _
   ·split
    ·exact Nat.le_succ _
    ·rename_i a b;rw[if_neg a,if_neg b]at hd;cases hd
  have:=below_mono hs this;omega
theorem Way.next (h:Way es hs n out c)(hn:(es.map Ent.key).Nodup)(he:∀e∈es,e.hash<18446744073709551616∧e.key<18446744073709551616)(hN:NextS es hs c i c'):
  ∃out',Way es hs (n+1) out' c'∧((i.st=1∧c.done=false∧∃m∈es,out'=out++[m]∧(∀e∈out,lessE e m=true)∧¬c.passed m∧i.key=m.key∧i.val=m.val∧c'=behind m.hash m.key)∨(i.st≠1∧out'=out∧i.key=0∧i.val=0∧(i.st=2∨i.st=3)∧(i.st=3↔c'.done=true))):=by
 cases hN with
 |done hd=>exact⟨out,⟨h.asc,h.mem,fun hh=>(by rw[hd]at hh;cases hh),h.ok⟩,.inr ⟨by simp,rfl,rfl,rfl,.inr rfl,by simp[hd]⟩⟩
 |yield hd hi m h1 h2 h3 h4 hm=>
  obtain⟨w1,w2,w3,w4⟩:=(h.walkSt hd).some_ hn hm;have hb:=he m w4;exact⟨out++[m],walk_way w1 hb.1 hb.2 he,.inl ⟨rfl,hd,m,w4,rfl,w2,fun hp=>(by rcases hp with hp|hp;rw[hd]at hp;cases hp;have:=hm.2.1;rw[hp]at this;cases this),rfl,rfl,rfl⟩⟩
 |skip hd hi h1 h2 h3 h4 hm=>
  have hcn:=h.cnt hd
  have hpass:∀e∈es,((behind hi 18446744073709551615).passed e↔c.passed e):=fun e hh=>by
   rw[passed_behind h3 (by omega) he hh];have hb:=he e hh;unfold Cur.passed;rw[hd];constructor
   ·intro hl;right;exact hm e (mem_upto.2 ⟨hh,by simp[lessE]at hl;omega⟩)
   ·rintro(hl|hl)
    ·cases hl
    ·simp[lessE]at hl⊢;omega
  refine⟨out,⟨h.asc,fun e=>⟨fun hh=> ?_,fun hh=> ?_⟩,fun hx=> ?_,behind_ok h3⟩,.inr ⟨?_,rfl,rfl,rfl, ?_, ?_⟩⟩
  ·obtain⟨g1,g2⟩:=(h.mem e).1 hh;exact⟨g1,(hpass e g1).2 g2⟩
  ·exact(h.mem e).2 ⟨hh.1,(hpass e hh.1).1 hh.2⟩
  ·have hx':hi<18446744073709551615:=by
    unfold behind at hx;rw[if_neg (by omega)]at hx;by_cases hlt:hi<18446744073709551615
    ·exact hlt
    ·rw[if_neg hlt]at hx;cases hx
   have hb:(behind hi 18446744073709551615).hash=hi+1:=by
    unfold behind;rw[if_neg (by omega),if_pos hx']
   rw[hb];have:=below_more (b:=hi+1) h2 h1 (by omega);omega
  ·simp only;split<;>omega
  ·simp only;split<;>simp
  ·unfold behind
   by_cases hlt:hi<18446744073709551615<;>simp[hlt]
theorem Way.few (h:Way es hs n out c)(hd:c.done=false)(hN:NextS es hs c i c'):n<es.length+hs.length:=by
 have h1:=h.cnt hd;have h2:out.length≤es.length:=sub_nodup h.asc.nodup (fun e he=>((h.mem e).1 he).1)
 have h3:below_ hs c.hash<hs.length:=by
  have hx:∃hi,c.hash≤hi∧hi∈hs:=by
   cases hN with
   |done h=>rw[hd]at h;cases h
   |yield h hi m h1 h2=>exact⟨hi,h1,h2⟩
   |skip h hi h1 h2=>exact⟨hi,h1,h2⟩
  obtain⟨hi,g1,g2⟩:=hx;have:=below_more (b:=hi+1) g2 g1 (by omega);have:=below_le hs (hi+1);omega
 omega
end
end Go.Proofs.YtfbljmcjadfkoaaGreatDoor

/-! A map's Next by its contract. No statement of the claim. -/
namespace Go.Proofs.YtfbljmcjadfkoaaGreatDoor
set_option maxRecDepth 100000
set_option maxHeartbeats 8000000
open Go.RowKit AmC AmF AmS
def itV (i:Itm):Value:= .agg #[.int .i64 (i.st:Int),.int .u64 (i.key:Int),.int .u64 (i.val:Int)]
def itSet (its:List It)(id:Nat)(c:Cur):List It:=its.map fun i=>if i.id=id then{i with c:=c} else i
theorem nodup_cb_eq {its:List It}(hn:(its.map It.cb).Nodup){i j:It}(hi:i∈its)(hj:j∈its)(h:i.cb=j.cb):i=j:=by
 induction its with
 |nil=>cases hi
 |cons x l ih=>
  rw[List.map_cons,List.nodup_cons]at hn;rcases List.mem_cons.1 hi with h1|h1
  ·rcases List.mem_cons.1 hj with h2|h2
   ·rw[h1,h2]
   ·exact absurd (show x.cb∈l.map It.cb from by rw[←h1,h];exact List.mem_map_of_mem h2) hn.1
  ·rcases List.mem_cons.1 hj with h2|h2
   ·exact absurd (show x.cb∈l.map It.cb from by rw[←h2,←h];exact List.mem_map_of_mem h1) hn.1
   ·exact ih hn.2 h1 h2
section
variable {w w' : World} {ib mb most given id cb : Nat} {its : List It} {c c' : Cur}
theorem itSet_id:(itSet its id c).map It.id=its.map It.id:=by
 unfold itSet;rw[List.map_map];apply List.map_congr_left;intro i _;simp only[Function.comp_apply]
 split<;>rfl
theorem itSet_cb:(itSet its id c).map It.cb=its.map It.cb:=by
 unfold itSet;rw[List.map_map];apply List.map_congr_left;intro i _;simp only[Function.comp_apply]
 split<;>rfl
theorem itSet_foot:itFoot ib mb (itSet its id c)=itFoot ib mb its:=by unfold itFoot;rw[itSet_cb]
theorem itSet_map:itMap (itSet its id c)=itMap its:=by
 unfold itMap itSet;rw[List.map_map];apply List.map_congr_left;intro i _;simp only[Function.comp_apply]
 split<;>rfl
theorem ItAt.setCur (h:ItAt w ib mb most given its)(hi:⟨id,cb,c⟩∈its)(hc:CurAt w' cb c'){S:List Nat}(hm:Mod S w w')(hS:∀q∈S,q=cb∨q∉itFoot ib mb its):ItAt w' ib mb most given (itSet its id c'):=by
 have hnf:=h.nf;unfold itFoot at hnf;rw[List.nodup_cons,List.nodup_cons]at hnf;have hcbm:cb∈its.map It.cb:=List.mem_map.2 ⟨_,hi,rfl⟩;have h1:ib∉S:=fun hh=>(hS _ hh).elim (fun k=>hnf.1 (by rw[k];exact List.mem_cons_of_mem _ hcbm)) (fun k=>k (by simp[itFoot]));have h2:mb∉S:=fun hh=>(hS _ hh).elim (fun k=>hnf.2.1 (by rw[k];exact hcbm)) (fun k=>k (by simp[itFoot]));refine⟨h.blk.mod hm h1,by rw[itSet_map];exact h.map.mod hm h2,fun i hi'=> ?_,fun i hi'=> ?_,by rw[itSet_id];exact h.nd,by rw[itSet_foot];exact h.nf,h.few.1,by unfold itSet;rw[List.length_map];exact h.few.2⟩
 ·unfold itSet at hi';obtain⟨j,hj,rfl⟩:=List.mem_map.1 hi';by_cases hid:j.id=id
  ·rw[if_pos hid];have:=nodup_map_eq h.nd hj hi hid;rw[this];exact hc
  ·rw[if_neg hid];refine(h.cur j hj).mod hm (fun hh=>hid ?_);have hcb:j.cb=cb:=(hS _ hh).elim (fun k=>k) (fun k=>absurd (by unfold itFoot;simp only[List.mem_cons];exact .inr (.inr (List.mem_map_of_mem hj))) k);have hn:(its.map It.cb).Nodup:=hnf.2.2;exact congrArg It.id (nodup_cb_eq hn hj hi hcb)
 ·have:i.id∈its.map It.id:=by rw[←itSet_id (id:=id) (c:=c')];exact List.mem_map_of_mem hi'
  obtain⟨j,hj,hji⟩:=List.mem_map.1 this;rw[←hji];exact h.ids j hj
end
def StepP (W0:World)(E:Nat→Addr)(H:Nat→Nat)(Kk M I b:Nat)(G0:List Nat)(w0:World)(C:RmC)(GC:List Nat)(mb gv:Nat)(a:Pool)(ids:List Nat)(its:List It)(id cb:Nat)(c:Cur)(V:World)(it:Itm)(w':World):Prop:=
 ∃(c':Cur) (cc:Cnt) (GC':List Nat),NextS a.ents (highs a) c it c'∧LeC cc∧RtS W0 E H Kk M I b G0 w0 C GC' mb gv w' a ids (itSet its id c')∧CoreAtC W0 E H Kk M C.cb GC' w' a ids cc∧(∀q∈GC',q∈GC∨V.heap.size≤q)∧Mod (cb::GC) V w'
section
variable {W0 : World} {E : Nat → Addr} {H : Nat → Nat} {Kk M I b : Nat} {G0 : List Nat} {w0 w : World} {C : RmC} {GC : List Nat} {mb gv : Nat} {a : Pool} {ids : List Nat} {its : List It} {id cb : Nat} {c : Cur}
theorem StepP.mod {T:List Nat}{V w1 w2:World}{it:Itm}(h:StepP W0 E H Kk M I b G0 w0 C GC mb gv a ids its id cb c V it w1)(hm:Mod T w1 w2)(hT:∀q∈T,q∉rtFoot b C GC mb its∧w0.heap.size≤q∧q<V.heap.size):
  ∃(c':Cur) (cc:Cnt) (GC':List Nat),NextS a.ents (highs a) c it c'∧LeC cc∧RtS W0 E H Kk M I b G0 w0 C GC' mb gv w2 a ids (itSet its id c')∧CoreAtC W0 E H Kk M C.cb GC' w2 a ids cc∧(∀q∈GC',q∈GC∨V.heap.size≤q)∧Mod (cb::(GC++T)) V w2:=by
 obtain⟨c',cc,GC',h1,h2,h3,h4,h5,h6⟩:=h
 have h7:∀q∈T,q∉GC':=fun q hq hg=>by
  rcases h5 q hg with k|k
  ·exact(hT q hq).1 (mem_rtFoot.2 (.inr (.inr k)))
  ·have:=(hT q hq).2.2;omega
 refine⟨c',cc,GC',h1,h2,h3.mod_ hm (fun q hq=>⟨fun hg=> ?_,(hT q hq).2.1⟩),h4.mod hm (fun q hq=>⟨h7 q hq,Nat.le_trans h3.le0 (hT q hq).2.1⟩),h5,(h6.more (fun q hq=>by simp at hq⊢;rcases hq with k|k;exact .inl k;exact .inr (.inl k))).then (hm.more (fun q hq=>by simp;exact .inr (.inr hq)))⟩;rcases mem_rtFoot.1 hg with k|k|k
 ·exact(hT q hq).1 (mem_rtFoot.2 (.inl k))
 ·rw[itSet_foot]at k;exact(hT q hq).1 (mem_rtFoot.2 (.inr (.inl k)))
 ·exact h7 q hq k
theorem StepP.of {S:List Nat}{V V1 V2:World}{c':Cur}{cc:Cnt}{GC':List Nat}{it:Itm}(h3:RtS W0 E H Kk M I b G0 w0 C GC' mb gv V1 a ids its)(h4:CoreAtC W0 E H Kk M C.cb GC' V1 a ids cc)(h5:∀q∈GC',q∈GC∨V.heap.size≤q)(h6:Mod GC V V1)(hi:⟨id,cb,c⟩∈its)(h1:NextS a.ents (highs a) c it c')(h2:LeC cc)(hc:CurAt V2 cb c')(hm:Mod S V1 V2)(hS:∀q∈S,q=cb∨(q∉rtFoot b C GC' mb its∧w0.heap.size≤q∧V.heap.size≤q)):StepP W0 E H Kk M I b G0 w0 C GC mb gv a ids its id cb c V it V2:=by
 have hcb:cb∈itFoot C.ib mb its:=by
  unfold itFoot;simp only[List.mem_cons,List.mem_map];exact .inr (.inr ⟨_,hi,rfl⟩)
 refine⟨c',cc,GC',h1,h2,h3.setI (h3.itr.setCur hi hc hm (fun q hq=>(hS q hq).elim .inl (fun k=> .inr (fun g=>k.1 (mem_rtFoot.2 (.inr (.inl g))))))) hm (fun q hq=>(hS q hq).elim (fun k=> .inl (k▸hcb)) (fun k=> .inr ⟨k.1,k.2.1⟩)) (fun q hq=>by rw[itSet_foot]at hq;exact .inl hq),h4.mod hm (fun q hq=> ?_),h5,h6.trans hm (fun q hq _=>List.mem_cons_of_mem _ hq) (fun q hq hl=> ?_)⟩
 ·rcases hS q hq with k|k
  ·rw[k];exact⟨h3.apart.2.2 _ hcb,h3.b0.2 _ hcb⟩
  ·exact⟨fun g=>k.1 (mem_rtFoot.2 (.inr (.inr g))),Nat.le_trans h3.le0 k.2.1⟩
 ·rcases hS q hq with k|k
  ·rw[k];simp
  ·omega
end
end Go.Proofs.YtfbljmcjadfkoaaGreatDoor

/-! A map's Next by its contract. No statement of the claim. -/
namespace Go.Proofs.YtfbljmcjadfkoaaGreatDoor
set_option maxRecDepth 100000
set_option maxHeartbeats 8000000
open Go.RowKit AmC AmF AmS
end Go.Proofs.YtfbljmcjadfkoaaGreatDoor

/-! A map's Next, and a new map, by their contracts. No statement of the claim. -/
namespace Go.Proofs.YtfbljmcjadfkoaaGreatDoor
set_option maxRecDepth 100000
set_option maxHeartbeats 8000000
open Go.RowKit AmC AmF AmS
variable {its : List It} {I Kk M b cb gv id : Nat} {c : Cur} {W0 : World} {E : Nat → Addr} {H : Nat → Nat} {a : Pool} {ids : List Nat}
end Go.Proofs.YtfbljmcjadfkoaaGreatDoor

/-! Next of an iterator that there isn't. No statement of the claim. -/
namespace Go.Proofs.YtfbljmcjadfkoaaGreatDoor
set_option maxRecDepth 100000
set_option maxHeartbeats 8000000
open Go.RowKit AmC AmF AmS
end Go.Proofs.YtfbljmcjadfkoaaGreatDoor

/-! Floats in their one form, and the keys of the forms: the plain law. No program in sight. -/
namespace Go.Proofs.YtfbljmcjadfkoaaGreatDoor.AmF
set_option maxRecDepth 100000
set_option maxHeartbeats 8000000
open Go.RowKit AmC AmF AmS
variable {x : Nat}
def formW (x:Nat):Nat:=if nanB x then 9221120237041090560 else if rung x=0 then 0 else x
def okey (x:Nat):Nat:=if sgn (formW x)then 18446744073709551615-formW x else formW x+9223372036854775808
end Go.Proofs.YtfbljmcjadfkoaaGreatDoor.AmF

/-! order.Form, Bits, Key, fmap.Hash and amblerref27.Form by their contracts. No statement of the claim. -/
namespace Go.Proofs.YtfbljmcjadfkoaaGreatDoor
set_option maxRecDepth 100000
set_option maxHeartbeats 8000000
open Go.RowKit AmC AmF AmS
variable {x : Nat}
def fhash (k:Nat):Nat:=k*11400714819323198485 % 18446744073709551616
end Go.Proofs.YtfbljmcjadfkoaaGreatDoor

/-! A map of floats as one thing: its block, its map, as a function of keys. No statement of the claim. -/
namespace Go.Proofs.YtfbljmcjadfkoaaGreatDoor
set_option maxRecDepth 100000
set_option maxHeartbeats 8000000
open Go.RowKit AmC AmF AmS
variable {es es' : List Ent}
def fnOf (es:List Ent):Nat→Option Nat:=fun k=>(look es k).map Ent.val
def fupd (R:Nat→Option Nat)(k:Nat)(v:Option Nat):Nat→Option Nat:=fun x=>if x=k then v else R x
def upN (o:Option Nat)(n:Nat):Nat:=if o.isSome then n else n+1
def dnN (o:Option Nat)(n:Nat):Nat:=if o.isSome then n-1 else n
section
variable {W0 : World} {E : Nat → Addr} {K M I fb b : Nat} {G F : List Nat} {w w' : World} {R R' : Nat → Option Nat} {n n' : Nat} {its its' : List It} {gv gv' : Nat} {a : Pool} {ids : List Nat} {lst : Cnt}
end
end Go.Proofs.YtfbljmcjadfkoaaGreatDoor

/-! Package fmap by its contracts. No statement of the claim. -/
namespace Go.Proofs.YtfbljmcjadfkoaaGreatDoor
set_option maxRecDepth 100000
set_option maxHeartbeats 8000000
open Go.RowKit AmC AmF AmS
variable {E : Nat → Addr} {w : World} {its : List It}
end Go.Proofs.YtfbljmcjadfkoaaGreatDoor

/-! Scripts done on a map, plainly: what each operation answers, and what is there behind it. No statement of the claim. -/
namespace Go.Proofs.YtfbljmcjadfkoaaGreatDoor
set_option maxRecDepth 100000
set_option maxHeartbeats 8000000
open Go.RowKit AmC AmF AmS
structure St where
 R:Nat→Option Nat
 n:Nat
 ids:List Nat
 gv:Nat
def stZ:St:=⟨fun _=>none,0,[],0⟩
structure Ans where
 kind:Int
 iter:Int
 state:Int
 is:Bool
 key:Nat
 val:Nat
 err:Nat
deriving DecidableEq
def hasId (s:St)(i:Int):Bool:=s.ids.any fun x=>(x:Int)==i
def stepS (M I:Nat)(s:St)(o:SOp):St:=
 if o.kind=2 then{s with R:=putF M s.R s.n o.key.toNat o.val.toNat,n:=putN M (s.R o.key.toNat) s.n}
 else if o.kind=3 then{s with R:=delF s.R o.key.toNat,n:=delN (s.R o.key.toNat) s.n}
 else if o.kind=5 then{s with R:=fun _=>none,n:=0}
 else if o.kind=6 then(if s.ids.length<I then{s with ids:=s.ids++[s.gv+1],gv:=s.gv+1} else s)
 else if o.kind=8 then{s with ids:=s.ids.filter fun x=> !((x:Int)==o.iter)}
 else s
def ansD (M I:Nat)(s:St)(o:SOp):Ans where
 kind:=o.kind
 iter:=if o.kind=6∧s.ids.length<I then((s.gv+1:Nat):Int)else 0
 state:=0
 is:=if o.kind=1∨o.kind=3 then(s.R o.key.toNat).isSome else false
 key:=0
 val:=if o.kind=1 then(s.R o.key.toNat).getD 0 else if o.kind=4 then s.n else 0
 err:=if o.kind=2 then(if noRoom M (s.R o.key.toNat) s.n then 2 else 0)else if o.kind=6 then(if s.ids.length<I then 0 else 7)else if o.kind=7∨o.kind=8 then(if hasId s o.iter then 0 else 6)else 0
def Told (s:St)(err:Nat)(state:Int)(key val:Nat):Prop:=
 (err≠0→state=0∧key=0∧val=0)∧(err=0→1≤state∧state≤3∧(state=1→s.R key=some val)∧(state≠1→key=0∧val=0))
def AnsOk (M I:Nat)(s:St)(o:SOp)(a:Ans):Prop:=
 if o.kind=7 then a.kind=7∧a.iter=0∧a.is=false∧a.err=(ansD M I s o).err∧Told s a.err a.state a.key a.val else a=ansD M I s o
def AnsAll (M I:Nat):St→List SOp→List Ans→Prop
 |_,[],[]=>True
 |s,o::os,a::us=>AnsOk M I s o a∧AnsAll M I (stepS M I s o) os us
 |_,_,_=>False
def stepAll (M I:Nat)(s:St)(l:List SOp):St:=l.foldl (stepS M I) s
theorem AnsAll.len {M I:Nat}:∀{s:St} {l:List SOp} {us:List Ans},AnsAll M I s l us→us.length=l.length
 |_,[],[],_=>rfl
 |_,o::os,a::us,h=>by simp[AnsAll.len h.2]
 |_,[],_::_,h=>h.elim
 |_,_::_,[],h=>h.elim
def hashF (l:List SOp)(k:Nat):Nat:=((known l (k:Int)).getD 0).toNat
def ansV (E:Nat→Addr)(a:Ans):Value:= .agg #[.int .i64 a.kind,.int .i64 a.iter,.int .i64 a.state,.bool a.is,.int .u64 (a.key:Int),.int .u64 (a.val:Int),errV E a.err]
def ansC (E:Nat→Addr)(a:Ans):List Value:=[.int .i64 a.kind,.int .i64 a.iter,.int .i64 a.state,.bool a.is,.int .u64 (a.key:Int),.int .u64 (a.val:Int),errV E a.err]
def DoAt (W0:World)(E:Nat→Addr)(H:Nat→Nat)(K M I b:Nat)(G:List Nat)(w:World)(s:St):Prop:=
 ∃its,MpAt W0 E H K M I b G w s.R s.n its s.gv∧its.map It.id=s.ids∧∀i∈its,i.c.ok
def DoTo (W0:World)(E:Nat→Addr)(H:Nat→Nat)(K M I b:Nat)(G:List Nat)(w w':World)(s:St):Prop:=
 ∃G',DoAt W0 E H K M I b G' w' s∧(∀q∈G',q∈G∨w.heap.size≤q)∧Mod G w w'
section
variable {W0 : World} {E : Nat → Addr} {H : Nat → Nat} {K M I b : Nat} {G : List Nat} {w w' w2 : World} {s : St}
theorem DoAt.below (h:DoAt W0 E H K M I b G w s)(hb:Below w.heap.size w w'):DoAt W0 E H K M I b G w' s:=by
 obtain⟨its,h1,h2⟩:=h;exact⟨its,h1.below hb,h2⟩
theorem DoAt.mod {S:List Nat}(h:DoAt W0 E H K M I b G w s)(hm:Mod S w w')(hS:∀q∈S,q∉G∧W0.heap.size≤q):DoAt W0 E H K M I b G w' s:=by
 obtain⟨its,h1,h2⟩:=h;exact⟨its,h1.mod hm hS,h2⟩
theorem DoAt.lts (h:DoAt W0 E H K M I b G w s):∀q∈G,q<w.heap.size∧W0.heap.size≤q:=by
 obtain⟨its,h1,_⟩:=h;exact h1.lts
theorem DoAt.env (h:DoAt W0 E H K M I b G w s):Env W0 E w:=by
 obtain⟨its,h1,_⟩:=h;exact h1.env
theorem DoAt.least (h:DoAt W0 E H K M I b G w s):s.n≤M∧M≤192:=by
 obtain⟨its,h1,_⟩:=h;exact h1.least
theorem DoTo.of {its:List It}(h:MpTo W0 E H K M I b G w w' s.R s.n its s.gv)(hi:its.map It.id=s.ids)(hok:∀i∈its,i.c.ok):DoTo W0 E H K M I b G w w' s:=by
 obtain⟨G',h1,h2,h3⟩:=h;exact⟨G',⟨its,h1,hi,hok⟩,h2,h3⟩
theorem DoAt.to (h:DoAt W0 E H K M I b G w s)(hb:Below w.heap.size w w'):DoTo W0 E H K M I b G w w' s:=⟨G,h.below hb,fun _ hq=> .inl hq,Mod.of_below hb G⟩
theorem DoTo.mod (h:DoTo W0 E H K M I b G w w' s):Mod G w w':=by
 obtain⟨G',_,_,h3⟩:=h;exact h3
theorem DoTo.next (h:DoTo W0 E H K M I b G w w' s)(hb:Below w'.heap.size w' w2):DoTo W0 E H K M I b G w w2 s:=by
 obtain⟨G',h1,h2,h3⟩:=h;exact⟨G',h1.below hb,h2,h3.trans (Mod.of_below hb G) (fun _ hk _=>hk) (fun k hk _=>hk)⟩
theorem DoTo.behind (h:DoTo W0 E H K M I b G w w' s)(hb:Below w2.heap.size w2 w):DoTo W0 E H K M I b G w2 w' s:=by
 obtain⟨G',h1,h2,h3⟩:=h;refine⟨G',h1,fun q hq=>(h2 q hq).elim .inl fun k=> .inr (Nat.le_trans hb.size k),(Mod.of_below hb G).trans h3 (fun _ hk _=>hk) (fun k hk _=>hk)⟩
end
end Go.Proofs.YtfbljmcjadfkoaaGreatDoor

/-! Package run: next and Do. No statement of the claim. -/
namespace Go.Proofs.YtfbljmcjadfkoaaGreatDoor
set_option maxRecDepth 100000
set_option maxHeartbeats 8000000
open Go.RowKit AmC AmF AmS
variable {s : St} {its : List It} {c c' : Cur} {es : List Ent} {G hs : List Nat} {it : Itm} {W0 w : World} {E : Nat → Addr} {H : Nat → Nat} {I K M b : Nat}
theorem NextS.ok (h:NextS es hs c it c')(hok:c.ok)(he:∀e∈es,e.hash<18446744073709551616):c'.ok:=by
 cases h with
 |done h=>exact hok
 |yield h hi m h1 h2 h3 h4 hm=>exact behind_ok (he m (mem_upto.1 hm.1).1)
 |skip h hi h1 h2 h3 h4 hm=>exact behind_ok h3
theorem RtAt.h64 {a:Pool}{ids:List Nat}{gv:Nat}{lst:Cnt}(h:RtAt W0 E H K M I b G w a ids its gv lst):∀e∈a.ents,e.hash<18446744073709551616:=fun e he=>by
 obtain⟨C,GC,mb,h1,_⟩:=h;obtain⟨i,N,g1,g2⟩:=mem_pool.1 he;exact((h1.core.facts.2.2.2.2.2.1 i N g1).hash e g2).1.h64
def ansZ:Array Value:= #[.int .i64 0,.int .i64 0,.int .i64 0,.bool false,.int .u64 0,.int .u64 0,.nilIface]
def NxtA (s:St)(i:Int)(a:Ans):Prop:=a.kind=7∧a.iter=0∧a.is=false∧a.err=(if hasId s i then 0 else 6)∧Told s a.err a.state a.key a.val
theorem DoTo.own {S:List Nat}{W w1 V:World}(h:DoTo W0 E H K M I b G W w1 s)(hG:∀q∈G,q<w.heap.size)(h0:W0.heap.size≤w.heap.size)(hb:Below w.heap.size w W)(hV:Mod S w1 V)(hS:∀q∈S,(w.heap.size≤q∧q<W.heap.size)∨w1.heap.size≤q):DoTo W0 E H K M I b G w V s:=by
 obtain⟨G1,hD,hs,hm⟩:=h;have hle:∀q∈S,w.heap.size≤q:=fun q hq=>(hS q hq).elim And.left (fun k=>Nat.le_trans hb.size (Nat.le_trans hm.size k));refine⟨G1,hD.mod hV (fun q hq=>⟨fun hg=> ?_,Nat.le_trans h0 (hle q hq)⟩),fun q hq=>(hs q hq).imp id (Nat.le_trans hb.size),((Mod.of_below hb G).trans hm (fun _ hk _=>hk) (fun _ hk _=>hk)).trans hV (fun _ hk _=>hk) (fun k hk hl=>absurd hl (Nat.not_lt.2 (hle k hk)))⟩;rcases hS q hq with k|k
 ·rcases hs q hg with l|l
  ·exact absurd (hG q l) (Nat.not_lt.2 k.1)
  ·exact absurd k.2 (Nat.not_lt.2 l)
 ·exact absurd (hD.lts q hg).1 (Nat.not_lt.2 k)
end Go.Proofs.YtfbljmcjadfkoaaGreatDoor

/-! Package run: Do. No statement of the claim. -/
namespace Go.Proofs.YtfbljmcjadfkoaaGreatDoor
set_option maxRecDepth 100000
set_option maxHeartbeats 8000000
open Go.RowKit AmC AmF AmS
variable {t : TypeId} {key val : Nat} {hk it : Int} {u : Value}
def noE (M:Nat)(s:St)(key:Nat):Nat:=if noRoom M (s.R key) s.n then 2 else 0
def opE (I:Nat)(s:St):Nat:=if s.ids.length<I then 0 else 7
def opI (I:Nat)(s:St):Int:=if s.ids.length<I then((s.gv+1:Nat):Int)else 0
def idE (s:St)(i:Int):Nat:=if hasId s i then 0 else 6
section
variable {W0 : World} {E : Nat → Addr} {H : Nat → Nat} {K M I b : Nat} {G : List Nat} {w : World} {s : St}
end
def DoP (W0:World)(E:Nat→Addr)(H:Nat→Nat)(K M I b:Nat)(G:List Nat)(w:World)(s:St)(o:SOp)(y:Ending)(w':World):Prop:=∃a,y= .returned (.tuple #[ansV E a,.nilIface])∧AnsOk M I s o a∧DoTo W0 E H K M I b G w w' (stepS M I s o)
structure HGp (G:List Nat)(W0 w:World):Prop where
 lt:∀q∈G,q<w.heap.size
 far:∀q,w.heap.size≤q→q∉G
 base:W0.heap.size≤w.heap.size
end Go.Proofs.YtfbljmcjadfkoaaGreatDoor
