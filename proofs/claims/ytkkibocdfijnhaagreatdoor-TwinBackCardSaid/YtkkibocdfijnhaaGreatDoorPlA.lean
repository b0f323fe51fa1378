/- script.Hashes by its contract. -/
import Derived.Test.YtkkibocdfijnhaaGreatDoorNum
import Derived.Test.YtkkibocdfijnhaaGreatDoorLaneP
import Derived.Laws.CopyOwn
import Derived.Laws.AppendOwn
import Derived.Shelf.Spec.SlicesInsert
import Derived.Test.YtkkibocdfijnhaaGreatDoorSqM
import Derived.Test.YtkkibocdfijnhaaGreatDoorCoT
namespace Go.Proofs.YtkkibocdfijnhaaGreatDoor
set_option maxRecDepth 100000
set_option maxHeartbeats 4000000
open Go.RowKit tF Go.Maps bV
variable {l : List aV} {o : aV} {w : World} {base e n size : Nat} {v : Value} {xs : List Value}
def DJ (k v h:Int):List Value:=[.int .u64 k,.int .u64 v,.int .u64 h]
def oZ (l:List aV):List Value:=l.flatMap fun o=>DJ o.key 0 o.hash
theorem Ga (l:List aV):(oZ l).length=l.length*3:=by
 induction l with
 |nil=>rfl
 |cons o t ih=>
  have:(oZ (o::t)).length=3+(oZ t).length:=by simp[oZ,DJ];omega
  rw[this,ih,List.length_cons];omega
theorem FeS:(Tryz.prog.info? 62).map (fun i=>(i.zero,i.size,i.bytes))=some (some (.agg #[.int .u64 0,.int .u64 0,.int .u64 0]),3,24):=by kernel_rfl
theorem FgS:vH Tryz.prog 59 62 3 24:=EX Tryz.underlying59 FeS rfl (by decide) (by decide)
def cntF (l:List aV)(y:Int):Option Int:=if cnt l y=0 then none else some (cnt l y:Int)
theorem Zf (l:List aV)(y:Int):(cntF l y).getD 0=(cnt l y:Int):=by
 unfold cntF;split
 ·next h=>rw[h];rfl
 ·rfl
theorem Ws (h:eG o.kind=true):cntF (l++[o])=fun y=>if y=o.key then some ((cnt l o.key:Int)+1)else cntF l y:=by
 funext y;unfold cntF;rw[OU,h];by_cases hy:y=o.key
 ·subst hy;simp
 ·have:(o.key==y)=false:=by simp;exact fun e=>hy e.symm
  simp[this,hy]
theorem Wt (h:eG o.kind=false):cntF (l++[o])=cntF l:=by
 funext y;unfold cntF;rw[OU,h];simp
structure ada (w:World)(l:List aV)(k:Nat)(v:Value)(wr:World):Prop where
 out:wr.ownsRow (w.heap.size+1) 62 3 v (firsts (l.take k)).length (oZ (firsts (l.take k)))
 map:gW wr Tryz.prog 35 3 .u64 .i64 w.heap.size k (cntF (l.take k))
 below:Below w.heap.size w wr
 size:w.heap.size+1≤wr.heap.size
def Zg (w:World)(l:List aV)(e:Ending)(w':World):Prop:=
 ∃v,e= .returned v∧w'.ownsRow w.heap.size 62 3 v (firsts l).length (oZ (firsts l))∧Below w.heap.size w w'
theorem Wu {base':Nat}(h:w.ownsRow base e size v n xs)(hb:base'≤base):w.ownsRow base' e size v n xs:=by
 refine⟨h.1, ?_⟩;rcases h.2 with h2|⟨g,cap,cur,hv,hg,r⟩
 ·exact .inl h2
 ·exact .inr ⟨g,cap,cur,hv,by omega,r⟩
theorem Q0 {w1:World}{b:Nat}(h:w.ownsRow base e size v n xs)(hg:w.grownBy w1 (some b))(hb:b<base):w1.ownsRow base e size v n xs:=by
 refine h.kept hg ?_
 cases hv:v.ownBlock with
 |none=>exact .inl rfl
 |some k=>
  have hk:=h.lt k hv;right;intro e
  injection e with e
  rcases h.2 with⟨rfl,_⟩|⟨g,cap,cur,rfl,hg2,_⟩
  ·simp[Value.ownBlock]at hv
  ·have:g=k:=by simpa[Value.ownBlock]using hv
   omega
theorem LQ (A:Option Addr)(n c:Nat)(l:List aV)(w:World)(h:Reads w w.heap.size 5 A n (dR l))(hn:n≤65536)(hwf:∀o∈l,Dz o):
  Calls Tryz.prog 18 #[.slice A n c] w (Zg w l):=by
 have hl:l.length=n:=by have:=h.1;rw[jP]at this;omega
 have hmm:=@run_makeMap Tryz.prog;go_in;go_wp2;go_loopw [4,6,10] (fun v _ i wr=>∃k:Nat,k≤n∧i= .int .i64 k∧ada w l k v wr) (fun _ _ i _=>n-(intOf i).toNat)
 case atStart=>exact⟨0,by omega,rfl,World.ownsRow_nil _ _ _ _,gW.made _ _ _ _ _ _,(Below.refl _ _).alloc (Nat.le_refl _) _,by simp⟩
 case round=>
  obtain⟨k,hk,rfl,hc⟩:=hrel;by_cases hlt:k<n
  ·have ho:l[k]?=some (l[k]'(by omega)):=List.getElem?_eq_getElem _;have hw0:=hwf _ (List.getElem_mem (show k<l.length by omega));generalize l[k]'(by omega)=o at ho hw0;obtain⟨b,off,rfl,hb,c0,c1,c2,c3,c4⟩:=yh (h.below hc.below) ho;have htk:=sI ho;have hfs:=EU (l.take k) o;have hca:=abn (l.take k) o
   have hlen:(l.take k).length=k:=by rw[List.length_take];omega
   have hfl:(firsts (l.take k)).length≤k:=by have:=LM (l.take k);omega
   have hcl:cnt (l.take k) o.key≤k:=by have:=acW (l.take k) o.key;omega
   rw[←htk]at hfs;obtain⟨_,_,y2,y3,_,_,y6,y7,_,_⟩:=hw0;have hwk:=qd (wf_u64 y2 y3);have hmap:=hc.map;have hbel:=hc.below;have hout:=hc.out;have hsz:=hc.size;clear hc ho hlen
   have hlt':(k:Int)<(n:Int):=by omega
   cases hK:eG o.kind with
   |false=>
    rw[hK,Bool.false_and,if_neg (by simp),List.append_nil]at hfs
    have hcs:cntF (l.take (k+1))=cntF (l.take k):=by rw[htk];exact Wt hK
    have Wv:=qd hfs;have Ww:=qd hcs;have HK:=qd (show∀W,Calls Tryz.prog 37 #[.int .i64 o.kind] W fun e w'=>e= .returned (.bool false)∧W=w' from fun W=>by have:=oV o.kind W;rw[hK]at this;exact this);clear hfs hcs hca htk hK;go_wp2_with (go_at_call 37;refine(HK.out _).mono ?_;rintro e w1 ⟨rfl,rfl⟩);go_roundw
    case rel=>exact⟨k+1,by omega,by go_num,by rw[Wv.out];exact hout.alloc _,by rw[Ww.out];obtain⟨D,d1,d2⟩:=hmap.alloc _;exact⟨D,d1.mono (by omega),d2⟩,hbel.alloc hbel.size _,by simp;omega⟩
    case measure=>first|(simp[intOf];done)|(simp[intOf];omega)
   |true=>
    rw[hK,Bool.true_and]at hfs
    have hcs:cntF (l.take (k+1))=fun y=>if y=o.key then some ((cnt (l.take k) o.key:Int)+1)else cntF (l.take k) y:=by rw[htk];exact Ws hK
    have hcg:=Zf (l.take k) o.key;have Ww:=qd hcs;have HCG:=qd hcg;have HK:=qd (show∀W,Calls Tryz.prog 37 #[.int .i64 o.kind] W fun e w'=>e= .returned (.bool true)∧W=w' from fun W=>by have:=oV o.kind W;rw[hK]at this;exact this);clear hcs hcg htk hK;by_cases hz:cnt (l.take k) o.key=0
    ·rw[hca.1 hz]at hfs;simp only[Bool.not_false,if_true]at hfs;have Wv:=qd hfs;have HZ:=qd hz;clear hfs hca hz
     go_wp2_with (first
      |(go_at_call 37;refine(HK.out _).mono ?_;rintro e w1 ⟨rfl,rfl⟩)
      | (at_lookup; first
        |(refine uL rfl _ _ rfl Tryz.underlying35 Tryz.underlying99 Tryz.underlying3 (Bo _) rfl hm2 o.key rfl hwk.out ?_;simp only[if_true,Option.getD_some])
        |(refine uL rfl _ _ rfl Tryz.underlying35 Tryz.underlying99 Tryz.underlying3 (Bo _) rfl (hmap.alloc _) o.key rfl hwk.out ?_;rw[HCG.out,HZ.out]))
      |(at_mapUpdate;refine oq rfl _ _ _ rfl Tryz.underlying35 Tryz.underlying99 Tryz.underlying3 rfl (hmap.alloc _) (by unfold maxLen;omega) o.key 1 rfl rfl hwk.out (by decide) ?_;intro w2 hm2 hg2;have hout2:=Q0 (hout.alloc _) hg2 (by omega);have Ti:=(hbel.alloc hbel.size _).grown hg2 (by have:=hbel.size;simp;omega) (fun j hj=>by cases hj;exact Nat.le_refl _);have hop:=(aj.new wr 40 #[.int .i64 o.kind,.int .u64 o.key,.int .u64 o.val,.int .u64 o.hash,.int .i64 o.iter]).grown hg2 (by intro e;injection e with e;omega);have q1:w2.cell? ⟨wr.heap.size,1,none⟩=some (.int .u64 o.key):=hop.cell 1;have q3:w2.cell? ⟨wr.heap.size,3,none⟩=some (.int .u64 o.hash):=hop.cell 3;have hsz2:w.heap.size+1≤w2.heap.size:=by have:=hg2.size;simp at this;omega)
      |(at_builtin;refine iN rfl rfl FgS hout2 rfl rfl (by simp) rfl rfl (by omega) hsz2 ?_;intro v3 w3 hown3 hg3))
     go_roundw
     case rel=>exact⟨k+1,by omega,by go_num,by rw[Wv.out,List.length_append];simpa[oZ,DJ]using hown3,by rw[Ww.out,HZ.out];exact(hm2.below hg3.below (by omega)).congr fun y=>rfl,Ti.trans (hg3.below.mono (by omega)),by have:=hg3.size;omega⟩
     case measure=>first|(simp[intOf];done)|(simp[intOf];omega)
    ·have hany:(l.take k).any (fH o)=true:=by
      cases ha:(l.take k).any (fH o)with
      |true=>rfl
      |false=>exact absurd (hca.2 ha) hz
     rw[hany]at hfs;simp only[Bool.not_true,Bool.false_eq_true,if_false,List.append_nil]at hfs;have Wv:=qd hfs;obtain⟨m,hm⟩:∃m:Nat,cnt (l.take k) o.key=m:=⟨_,rfl⟩;rw[hm]at hcl hz HCG Ww
     have hne:(((m:Int)+1)==1)=false:=by simp;omega
     clear hfs hca hany hm
     go_wp2_with (first
      |(go_at_call 37;refine(HK.out _).mono ?_;rintro e w1 ⟨rfl,rfl⟩)
      | (at_lookup; first
        |(refine uL rfl _ _ rfl Tryz.underlying35 Tryz.underlying99 Tryz.underlying3 (Bo _) rfl hm2 o.key rfl hwk.out ?_;simp only[if_true,Option.getD_some])
        |(refine uL rfl _ _ rfl Tryz.underlying35 Tryz.underlying99 Tryz.underlying3 (Bo _) rfl (hmap.alloc _) o.key rfl hwk.out ?_;rw[HCG.out]))
      |(at_mapUpdate;refine oq rfl _ _ _ rfl Tryz.underlying35 Tryz.underlying99 Tryz.underlying3 rfl (hmap.alloc _) (by unfold maxLen;omega) o.key ((m:Int)+1) rfl rfl hwk.out (wf_i64 (by omega) (by omega)) ?_;intro w2 hm2 hg2;have hout2:=Q0 (hout.alloc _) hg2 (by omega);have Ti:=(hbel.alloc hbel.size _).grown hg2 (by have:=hbel.size;simp;omega) (fun j hj=>by cases hj;exact Nat.le_refl _);have hop:=(aj.new wr 40 #[.int .i64 o.kind,.int .u64 o.key,.int .u64 o.val,.int .u64 o.hash,.int .i64 o.iter]).grown hg2 (by intro e;injection e with e;omega);have q1:w2.cell? ⟨wr.heap.size,1,none⟩=some (.int .u64 o.key):=hop.cell 1;have q3:w2.cell? ⟨wr.heap.size,3,none⟩=some (.int .u64 o.hash):=hop.cell 3;have hsz2:w.heap.size+1≤w2.heap.size:=by have:=hg2.size;simp at this;omega))
     go_roundw
     case rel=>exact⟨k+1,by omega,by go_num,by rw[Wv.out];exact hout2,by rw[Ww.out];exact hm2,Ti,hsz2⟩
     case measure=>first|(simp[intOf];done)|(simp[intOf];omega)
  ·obtain rfl:k=n:=by omega
   have hout:=Wu hc.out (base':=w.heap.size) (by omega);rw[List.take_of_length_le (by omega)]at hout;have hbel:=hc.below;clear hc;go_wp2;go_ret;exact⟨_,rfl,hout,hbel⟩
end Go.Proofs.YtkkibocdfijnhaaGreatDoor

/-! A partial function as a row of pairs, rising by keys: looked up, put, taken out. No program in sight. -/
namespace Go.Proofs.YtkkibocdfijnhaaGreatDoor.IC
set_option maxRecDepth 100000
set_option maxHeartbeats 4000000
open Go.RowKit tF Go.Maps bV
variable {p : Nat × Nat} {k v : Nat}
abbrev PL:=List (Nat×Nat)
def lW (l:PL):Prop:=l.Pairwise fun a b=>a.1<b.1
def iM (l:PL)(k:Nat):Nat:=l.countP fun p=>decide (p.1<k)
def sK (l:PL)(k:Nat):Bool:=(l[iM l k]?).any fun p=>p.1==k
def uy (l:PL)(k:Nat):Option Nat:=(l.find? fun p=>p.1==k).map Prod.snd
def vS (l:PL)(k v:Nat):PL:=if sK l k then l.set (iM l k) (k,v)else l.take (iM l k)++(k,v)::l.drop (iM l k)
def agd (l:PL)(k:Nat):PL:=if sK l k then l.eraseIdx (iM l k)else l
theorem Q5 (l:PL)(k:Nat):iM l k≤l.length:=List.countP_le_length
theorem wR:∀{l:PL} {k i:Nat} {p:Nat×Nat},lW l→l[i]?=some p→(i<iM l k↔p.1<k)
 | [],_,_,_,_,h=>by simp at h
 |x::l,k,i,p,ha,h=>by
  have ha':=List.pairwise_cons.1 ha;unfold iM;rw[List.countP_cons];by_cases hx:x.1<k
  ·simp only[hx,decide_true,if_true]
   cases i with
   |zero=>obtain rfl:=Option.some.inj h;simp[hx]
   |succ i=>
    have:=wR (k:=k) (i:=i) ha'.2 h;unfold iM at this;omega
  ·simp only[hx,decide_false]
   have h0:l.countP (fun p=>decide (p.1<k))=0:=by
    rw[List.countP_eq_zero];intro y hy hd;have h1:=ha'.1 y hy
    have h2:y.1<k:=by simpa using hd
    omega
   rw[h0]
   have hp:x.1≤p.1:=by
    cases i with
    |zero=>obtain rfl:=Option.some.inj h;exact Nat.le_refl _
    |succ i=>exact Nat.le_of_lt (ha'.1 p (List.mem_of_getElem? h))
   simp;omega
theorem Ai {l:PL}(h:lW l){i j:Nat}{q:Nat×Nat}(hij:i<j)(hp:l[i]?=some p)(hq:l[j]?=some q):p.1<q.1:=by
 obtain⟨h1,rfl⟩:=List.getElem?_eq_some_iff.1 hp;obtain⟨h2,rfl⟩:=List.getElem?_eq_some_iff.1 hq;exact List.pairwise_iff_getElem.1 h i j h1 h2 hij
theorem adb {l:PL}(h:∀(i j:Nat) (p q:Nat×Nat),i<j→l[i]?=some p→l[j]?=some q→p.1<q.1):lW l:=
 List.pairwise_iff_getElem.2 fun i j h1 h2 hij=>h i j _ _ hij (List.getElem?_eq_getElem h1) (List.getElem?_eq_getElem h2)
theorem qw {l:PL}(ha:lW l):uy l k=some v↔(k,v)∈l:=by
 unfold uy;constructor
 ·intro h;obtain⟨p,hp,rfl⟩:=Option.map_eq_some_iff.1 h;have h1:=List.find?_some hp;have h2:=List.mem_of_find?_eq_some hp
  have:p.1=k:=by simpa using h1
  rw[←this];exact h2
 ·intro h
  cases hf:l.find? fun p=>p.1==k with
  |none=>
   have:=List.find?_eq_none.1 hf _ h;simp at this
  |some p=>
   have h1:p.1=k:=by simpa using List.find?_some hf
   obtain⟨i,hi⟩:=List.getElem?_of_mem h;obtain⟨j,hj⟩:=List.getElem?_of_mem (List.mem_of_find?_eq_some hf)
   have hij:i=j:=by
    rcases Nat.lt_trichotomy i j with hl|hl|hl
    ·have:=Ai ha hl hi hj;simp only at this;omega
    ·exact hl
    ·have:=Ai ha hl hj hi;simp only at this;omega
   subst hij;rw[hi]at hj;obtain rfl:=Option.some.inj hj;rfl
theorem DK {l:PL}:uy l k=none↔∀p∈l,p.1≠k:=by
 unfold uy;rw[Option.map_eq_none_iff,List.find?_eq_none];simp
theorem D7 {l:PL}(ha:lW l):sK l k=true↔∃v,l[iM l k]?=some (k,v)∧uy l k=some v:=by
 unfold sK
 cases h:l[iM l k]? with
 |none=>simp
 |some p=>
  simp only[Option.any_some];constructor
  ·intro hk
   have hk':p.1=k:=by simpa using hk
   subst hk';exact⟨p.2,rfl,(qw ha).2 (List.mem_of_getElem? h)⟩
  ·rintro⟨v,hv,_⟩;obtain rfl:=Option.some.inj hv;simp
theorem DL {l:PL}(ha:lW l)(h:sK l k=false):uy l k=none:=by
 rw[DK];intro p hp he;obtain⟨i,hi⟩:=List.getElem?_of_mem hp;have h1:=wR (k:=k) ha hi
 have hge:iM l k≤i:=by omega
 have hlt:iM l k<l.length:=by have:=(List.getElem?_eq_some_iff.1 hi).1;omega
 obtain⟨q,hq⟩:∃q,l[iM l k]?=some q:=⟨_,List.getElem?_eq_getElem hlt⟩;have h2:=not_congr (wR (k:=k) ha hq);rcases Nat.lt_or_eq_of_le hge with hl|hl
 ·have:=Ai ha hl hq hi;omega
 ·unfold sK at h;rw[hl,hi]at h;simp[he]at h
theorem abv {l:PL}(ha:lW l)(k:Nat):sK l k=(uy l k).isSome:=by
 cases h:sK l k with
 |true=>obtain⟨v,_,h2⟩:=(D7 ha).1 h;rw[h2];rfl
 |false=>rw[DL ha h];rfl
theorem Zh {l:PL}(ha:lW l):p∈vS l k v↔p=(k,v)∨(p∈l∧p.1≠k):=by
 unfold vS;by_cases hk:sK l k=true
 ·rw[if_pos hk];obtain⟨u,hu,_⟩:=(D7 ha).1 hk;obtain⟨hlt,hu'⟩:=List.getElem?_eq_some_iff.1 hu;constructor
  ·intro h;obtain⟨i,hi⟩:=List.getElem?_of_mem h;rw[List.getElem?_set]at hi;by_cases he:iM l k=i
   ·rw[if_pos he,if_pos hlt]at hi;exact .inl (Option.some.inj hi).symm
   ·rw[if_neg he]at hi;refine .inr ⟨List.mem_of_getElem? hi,fun hke=>he ?_⟩;rcases Nat.lt_trichotomy (iM l k) i with hl|hl|hl
    ·have:=Ai ha hl hu hi;simp only at this;omega
    ·exact hl
    ·have:=Ai ha hl hi hu;simp only at this;omega
  ·rintro(rfl|⟨h,hne⟩)
   ·exact List.mem_of_getElem? (i:=iM l k) (by rw[List.getElem?_set,if_pos rfl,if_pos hlt])
   ·obtain⟨i,hi⟩:=List.getElem?_of_mem h;refine List.mem_of_getElem? (i:=i) ?_;rw[List.getElem?_set,if_neg,hi];intro he;subst he;rw[hu]at hi;obtain rfl:=Option.some.inj hi;exact hne rfl
 ·rw[if_neg hk];have h0:=DK.1 (DL ha (by simpa using hk));rw[List.mem_append,List.mem_cons];constructor
  ·rintro(h|h|h)
   ·exact .inr ⟨List.mem_of_mem_take h,h0 p (List.mem_of_mem_take h)⟩
   ·exact .inl h
   ·exact .inr ⟨List.mem_of_mem_drop h,h0 p (List.mem_of_mem_drop h)⟩
  ·rintro(h|⟨h,_⟩)
   ·exact .inr (.inl h)
   ·rw[←List.take_append_drop (iM l k) l,List.mem_append]at h;rcases h with h|h
    ·exact .inl h
    ·exact .inr (.inr h)
theorem Gb {l:PL}(ha:lW l)(k v:Nat):lW (vS l k v):=by
 unfold vS;by_cases hk:sK l k=true
 ·rw[if_pos hk];obtain⟨u,hu,_⟩:=(D7 ha).1 hk
  have key:∀(i:Nat) (p:Nat×Nat),(l.set (iM l k) (k,v))[i]?=some p→∃p':Nat×Nat,l[i]?=some p'∧p'.1=p.1:=by
   intro i p hi;rw[List.getElem?_set]at hi;by_cases he:iM l k=i
   ·rw[if_pos he]at hi;split at hi
    ·obtain rfl:=Option.some.inj hi;exact⟨(k,u),he▸hu,rfl⟩
    ·cases hi
   ·rw[if_neg he]at hi;exact⟨p,hi,rfl⟩
  refine adb fun i j p q hij hp hq=> ?_;obtain⟨p',h1,e1⟩:=key i p hp;obtain⟨q',h2,e2⟩:=key j q hq;have:=Ai ha hij h1 h2;omega
 ·rw[if_neg hk];have h0:=DK.1 (DL ha (by simpa using hk))
  have hlow:∀p∈l.take (iM l k),p.1<k:=by
   intro p hp;obtain⟨i,hi⟩:=List.getElem?_of_mem hp;rw[List.getElem?_take]at hi;split at hi
   ·next hlt=>exact(wR ha hi).1 hlt
   ·cases hi
  have hhigh:∀p∈l.drop (iM l k),k<p.1:=by
   intro p hp;have hne:=h0 p (List.mem_of_mem_drop hp);obtain⟨i,hi⟩:=List.getElem?_of_mem hp;rw[List.getElem?_drop]at hi;have:=not_congr (wR (k:=k) ha hi);omega
  unfold lW;rw[List.pairwise_append,List.pairwise_cons];refine⟨ha.sublist (List.take_sublist _ _),⟨fun p hp=>hhigh p hp,ha.sublist (List.drop_sublist _ _)⟩,fun p hp q hq=> ?_⟩;have h1:=hlow p hp;rcases List.mem_cons.1 hq with rfl|hq
  ·exact h1
  ·have:=hhigh q hq;omega
theorem Q6:∀{l m:PL},lW l→lW m→(∀p,p∈l↔p∈m)→l=m
 | [],[],_,_,_=>rfl
 | [],y::m,_,_,h=>by have:=(h y).2 (by simp);simp at this
 |x::l,[],_,_,h=>by have:=(h x).1 (by simp);simp at this
 |x::l,y::m,hl,hm,h=>by
  have hl':=List.pairwise_cons.1 hl;have hm':=List.pairwise_cons.1 hm
  have hxy:x=y:=by
   rcases List.mem_cons.1 ((h x).1 (by simp))with e|e
   ·exact e
   ·rcases List.mem_cons.1 ((h y).2 (by simp))with e2|e2
    ·exact e2.symm
    ·have:=hm'.1 x e;have:=hl'.1 y e2;omega
  subst hxy;congr 1;refine Q6 hl'.2 hm'.2 fun p=>⟨fun hp=> ?_,fun hp=> ?_⟩
  ·rcases List.mem_cons.1 ((h p).1 (by simp[hp]))with rfl|e
   ·have:=hl'.1 _ hp;omega
   ·exact e
  ·rcases List.mem_cons.1 ((h p).2 (by simp[hp]))with rfl|e
   ·have:=hm'.1 _ hp;omega
   ·exact e
theorem Zi {l m:PL}(hl:lW l)(hm:lW m)(h:∀k,uy l k=uy m k):l=m:=
 Q6 hl hm fun p=>by rw[←qw hl (k:=p.1) (v:=p.2),←qw hm (k:=p.1) (v:=p.2),h]
def agf (l:PL):PL:=l.foldl (fun t p=>vS t p.1 p.2) []
end Go.Proofs.YtkkibocdfijnhaaGreatDoor.IC

/-! A copy of elements of any size, and what it leaves of a row of the call's own. No program in sight. -/
namespace Go.Proofs.YtkkibocdfijnhaaGreatDoor
set_option maxRecDepth 100000
set_option maxHeartbeats 4000000
open Go.RowKit tF Go.Maps bV IC
variable {d n o : Nat}
theorem yV {P:Program}(w:World)(dT sT ty elem:TypeId)(sz g o dLen dCap:Nat)(a:Addr)(sLen sCap:Nat)(cur:Array Value)(t:TypeId)(cs:List Value)(hu:P.underlying dT=some (.slice elem))(hs:(P.info? elem).map (·.size)=some sz)(hg:w.heap[g]?=some (.cells cur t (0,0)))(hn:cs.length=Nat.min sLen dLen*sz)(hsrc:∀j v,cs[j]?=some v→w.cell? (a.add j)=some v)(hfit:o+cs.length≤cur.size)(h1:∀v∈cs,v.oneCell'=true):
  (Builtin.copy_ #[dT,sT] ty #[.slice (some ⟨g,o,none⟩) dLen dCap,.slice (some a) sLen sCap]).run P w=
   .ok (goInt (Nat.min sLen dLen)) (w.setRow g (splice cur.toList o cs).toArray):=by
 have hl:=run_loadCells_list (P:=P) w a cs hsrc;have hst:=run_storeCells_at P g o t cs 0 cur w hg (by simpa using hfit) h1
 cases hq:P.info? elem with
 |none=>simp[hq]at hs
 |some i=>
  have hi:i.size=sz:=by simpa[hq]using hs
  simp[Builtin.copy_,run_underlying hu,Builtin.lenOf,Builtin.firstCells,sizeOf,typeInfo,hq,hi,←hn,hl,hst,splice]
section
variable {α : Type} {L cs xs vs : List α}
theorem rD (ho:o≤L.length)(j:Nat):(splice L o cs)[j]?=if j<o then L[j]? else if j<o+cs.length then cs[j-o]? else L[j]?:=by
 unfold splice;by_cases h1:j<o
 ·rw[if_pos h1,List.getElem?_append_left (by rw[List.length_take];omega),List.getElem?_take_of_lt h1]
 ·rw[if_neg h1,List.getElem?_append_right (by rw[List.length_take];omega),List.length_take,Nat.min_eq_left ho];by_cases h2:j<o+cs.length
  ·rw[if_pos h2,List.getElem?_append_left (by omega)]
  ·rw[if_neg h2,List.getElem?_append_right (by omega),List.getElem?_drop];congr 1;omega
theorem pE (h:o+cs.length≤L.length):(splice L o cs).length=L.length:=length_splice L o cs h
theorem Wx (hx:L.take n=xs)(hd:d≤n)(hn:n+vs.length≤L.length):(splice (splice L (d+vs.length) (xs.drop d)) d vs).take (n+vs.length)=xs.take d++(vs++xs.drop d):=by
 have hl:xs.length=n:=by rw[←hx,List.length_take];omega
 have h1:(splice L (d+vs.length) (xs.drop d)).length=L.length:=pE (by rw[List.length_drop];omega);apply List.ext_getElem?;intro j;by_cases hj:j<n+vs.length
 ·rw[List.getElem?_take_of_lt hj,rD (by omega)];by_cases j1:j<d
  ·rw[if_pos j1,rD (by omega),if_pos (by omega),List.getElem?_append_left (by rw[List.length_take];omega),List.getElem?_take_of_lt j1,←hx,List.getElem?_take_of_lt (by omega)]
  ·rw[if_neg j1,List.getElem?_append_right (by rw[List.length_take];omega),List.length_take,Nat.min_eq_left (by omega)];by_cases j2:j<d+vs.length
   ·rw[if_pos j2,List.getElem?_append_left (by omega)]
   ·rw[if_neg j2,rD (by omega),if_neg j2,if_pos (by rw[List.length_drop];omega),List.getElem?_append_right (by omega)];congr 1;omega
 ·rw[List.getElem?_eq_none (by rw[List.length_take];omega),List.getElem?_eq_none (by simp;omega)]
theorem Zj {Z:List α}(hl:xs.length=n)(hd:d≤n)(hZ:n+vs.length-d≤Z.length):(splice (splice (xs.take d++Z) d vs) (d+vs.length) (xs.drop d)).take (n+vs.length)=xs.take d++(vs++xs.drop d):=by
 have h0:(xs.take d++Z).length=d+Z.length:=by rw[List.length_append,List.length_take];omega
 have h1:(splice (xs.take d++Z) d vs).length=d+Z.length:=by rw[pE (by omega),h0]
 apply List.ext_getElem?;intro j;by_cases hj:j<n+vs.length
 ·rw[List.getElem?_take_of_lt hj,rD (by omega)];by_cases j1:j<d
  ·rw[if_pos (by omega),rD (by omega),if_pos j1,List.getElem?_append_left (by rw[List.length_take];omega),List.getElem?_append_left (by rw[List.length_take];omega)]
  ·rw[List.getElem?_append_right (by rw[List.length_take];omega),List.length_take,Nat.min_eq_left (by omega)];by_cases j2:j<d+vs.length
   ·rw[if_pos j2,rD (by omega),if_neg j1,if_pos j2,List.getElem?_append_left (by omega)]
   ·rw[if_neg j2,if_pos (by rw[List.length_drop];omega),List.getElem?_append_right (by omega)];congr 1;omega
 ·rw[List.getElem?_eq_none (by rw[List.length_take];omega),List.getElem?_eq_none (by simp;omega)]
end
theorem IE {w:World}{base g cap sz:Nat}{t:TypeId}{cur cur':Array Value}{xs:List Value}(hg:w.heap[g]?=some (.cells cur t (0,0)))(hb:base≤g)(hc:n≤cap)(hm:cap≤maxLen)(hs:cur'.size=cap*sz)(hx:cur'.toList.take (n*sz)=xs):
  (w.setRow g cur').ownsRow base t sz (.slice (some ⟨g,0,none⟩) n cap) n xs∧Mod [g] w (w.setRow g cur'):=by
 have hlt:g<w.heap.size:=(Array.getElem?_eq_some_iff.1 hg).1;refine⟨⟨?_,.inr ⟨g,cap,cur',rfl,hb,setRow_heap w g cur cur' t (0,0) hg,hc,hm,hs,hx⟩⟩,rfl,rfl,rfl,by simp[World.setRow],fun k hk hne=>setRow_other w g k cur' (fun e=>hne (by simp[e]))⟩;rw[←hx,List.length_take,Array.length_toList,hs];have:=Nat.mul_le_mul_right sz hc;omega
end Go.Proofs.YtkkibocdfijnhaaGreatDoor

/-! A function as a rising row of pairs: its block, its row; a key found by halves. No statement of the claim. -/
namespace Go.Proofs.YtkkibocdfijnhaaGreatDoor
set_option maxRecDepth 100000
set_option maxHeartbeats 4000000
open Go.RowKit tF Go.Maps bV IC
def eu (p:Nat×Nat):List Value:=[nU p.1,nU p.2]
theorem kM {p:Nat×Nat}{q:Nat}:∀{l:PL} {i:Nat},l[i]?=some p→q<2→(l.flatMap eu)[i*2+q]?=some ((eu p)[q]!)
 | [],_,h,_=>by simp at h
 |x::l,0,h,hq=>by
  obtain rfl:=Option.some.inj h;rw[List.flatMap_cons,List.getElem?_append_left (by simp[eu];omega)]
  have:q=0∨q=1:=by omega
  rcases this with rfl|rfl<;>rfl
 |x::l,i+1,h,hq=>by
  rw[List.flatMap_cons,List.getElem?_append_right (by simp[eu];omega)];have:=kM (l:=l) (i:=i) h hq;rw[show(i+1)*2+q-(eu x).length=i*2+q by simp[eu];omega];exact this
theorem gP (l:PL):(l.flatMap eu).length=l.length*2:=by
 induction l with
 |nil=>rfl
 |cons x l ih=>rw[List.flatMap_cons,List.length_append,ih,List.length_cons];simp[eu];omega
theorem DN (l:PL):∀v∈l.flatMap eu,v.oneCell'=true:=by
 intro v hv;obtain⟨p,_,hp⟩:=List.mem_flatMap.1 hv;simp only[eu,List.mem_cons,List.not_mem_nil,or_false]at hp
 rcases hp with rfl|rfl<;>rfl
theorem Tj (l:PL)(i:Nat):(l.flatMap eu).take (i*2)=(l.take i).flatMap eu:=by
 by_cases hi:i≤l.length
 ·have h:=congrArg (List.flatMap eu) (List.take_append_drop i l);rw[List.flatMap_append]at h;rw[←h,List.take_append_of_le_length (by rw[gP,List.length_take];omega),List.take_of_length_le (by rw[gP,List.length_take];omega)]
 ·rw[List.take_of_length_le (by rw[gP];omega),List.take_of_length_le (by omega)]
theorem Tk (l:PL)(i:Nat):(l.flatMap eu).drop (i*2)=(l.drop i).flatMap eu:=by
 have h:=congrArg (List.flatMap eu) (List.take_append_drop i l);rw[List.flatMap_append]at h;by_cases hi:i≤l.length
 ·rw[←h,List.drop_append_of_le_length (by rw[gP,List.length_take];omega),List.drop_of_length_le (by rw[gP,List.length_take];omega),List.nil_append]
 ·rw[List.drop_of_length_le (by rw[gP];omega),List.drop_of_length_le (by omega)];rfl
theorem Wy {l:PL}{i:Nat}(h:i<l.length)(k v:Nat)(hk:(l[i]?).map Prod.fst=some k):(l.flatMap eu).set (i*2+1) (nU v)=(l.set i (k,v)).flatMap eu:=by
 induction l generalizing i with
 |nil=>simp at h
 |cons x l ih=>
  cases i with
  |zero=>
   have:x.1=k:=by simpa using hk
   simp[eu,this]
  |succ i=>
   rw[List.set_cons_succ,List.flatMap_cons,List.flatMap_cons,←ih (by simpa using h) (by simpa using hk),List.set_append_right _ _ (by simp[eu];omega)];congr 2;simp[eu];omega
theorem zu:(Tryz.prog.info? 37).map (fun i=>(i.zero,i.size,i.bytes))=some (some (.agg #[.int .u64 0,.int .u64 0]),2,16):=by kernel_rfl
def tK (base:Nat)(w:World)(fb most:Nat)(F:List Nat)(l:PL):Prop:=
 ∃v,aj w fb 98 #[nI most,v]∧w.ownsRow base 37 2 v l.length (l.flatMap eu)∧F=fb::v.ownBlock.toList∧base≤fb∧lW l
def ade (base:Nat)(w w':World)(fb most:Nat)(F:List Nat)(l:PL):Prop:=
 ∃F',tK base w' fb most F' l∧(∀q∈F',q∈F∨w.heap.size≤q)∧Mod F w w'
theorem abw {w:World}{base n g sz:Nat}{e t:TypeId}{v:Value}{xs:List Value}{cs:Array Value}(h:w.ownsRow base e sz v n xs)(hB:aj w g t cs)(ht:t≠e):g∉v.ownBlock.toList:=by
 intro hg
 have hg':v.ownBlock=some g:=by simpa using hg
 rcases h.2 with⟨rfl,_⟩|⟨g',cap,cur,rfl,_,hh,_⟩
 ·cases hg'
 ·have:g'=g:=by simpa[Value.ownBlock]using hg'
  subst this;have h1:w.heap[g']?=some (.cells cs t (0,0)):=hB;rw[hh]at h1
  injection h1 with h1
  injection h1 with _ h1 _
  exact ht h1.symm
section
variable {base most fb n : Nat} {w w' : World} {F S : List Nat} {l l' : PL}
theorem tK.fM (h:tK base w fb most F l):∀q∈F,q<w.heap.size∧base≤q:=by
 obtain⟨v,h1,h2,rfl,h3,_⟩:=h;intro q hq;rcases List.mem_cons.1 hq with rfl|hq
 ·exact⟨h1.lt,h3⟩
 ·have:=h2.lt q (by simpa using hq);exact⟨this.2,this.1⟩
theorem tK.mod (h:tK base w fb most F l)(hm:Mod S w w')(hS:∀q∈S,q∉F):tK base w' fb most F l:=by
 obtain⟨v,h1,h2,rfl,h3⟩:=h;refine⟨v,h1.mod hm (fun hq=>hS fb hq (by simp)),⟨h2.1, ?_⟩,rfl,h3⟩;rcases h2.2 with k|⟨g,cap,cur,rfl,k2,k3,k4⟩
 ·exact .inl k
 ·refine .inr ⟨g,cap,cur,rfl,k2, ?_,k4⟩;rw[hm.block g (Array.getElem?_eq_some_iff.1 k3).1 (fun hq=>hS g hq (by simp[Value.ownBlock]))];exact k3
theorem tK.below (h:tK base w fb most F l)(hb:Below w.heap.size w w'):tK base w' fb most F l:=h.mod (Mod.of_below hb []) (by simp)
theorem tK.rC (h:tK base w fb most F l):lW l:=by
 obtain⟨v,_,_,_,_,h⟩:=h;exact h
end
def lM (a b:Nat):Int:=if a<b then-1 else if b<a then 1 else 0
theorem Wz (x:Int)(w:World):Calls Tryz.prog 137 #[.int .u64 x] w fun y w'=>y= .returned (.bool false)∧w=w':=by
 go_in;go_wp2;go_ret;exact⟨by simp,rfl⟩
theorem PU (a b:Nat)(w:World):Calls Tryz.prog 101 #[nU a,nU b] w fun e w'=>e= .returned (.int .i64 (lM a b))∧w=w':=by
 have HN:=qd (fun(z:Int) (W:World)=>Wz z W);obtain⟨v,hv⟩:∃v,v=lM a b:=⟨_,rfl⟩;rw[←hv];rcases Nat.lt_trichotomy a b with h|h|h
 focus
  have h1:(a:Int)<(b:Int):=by omega
  obtain rfl:v= -1:=by rw[hv];unfold lM;rw[if_pos h]
  clear hv h
 rotate_left
 focus
  subst h
  obtain rfl:v=0:=by rw[hv];unfold lM;simp
  clear hv
 rotate_left
 focus
  have h1:¬(a:Int)<(b:Int):=by omega
  have h2:(b:Int)<(a:Int):=by omega
  obtain rfl:v=1:=by rw[hv];unfold lM;rw[if_neg (by omega),if_pos h]
  clear hv h
 all_goals
  go_in;go_wp2_with fail;refine(HN.out _ _).mono ?_;rintro e wq ⟨rfl,rfl⟩;go_wp2_with fail;refine(HN.out _ _).mono ?_;rintro e wq ⟨rfl,rfl⟩;go_wp2;go_ret;exact⟨rfl,rfl⟩
theorem O3 (p:Nat×Nat)(key:Nat)(w:World):Calls Tryz.prog 74 #[.agg #[nU p.1,nU p.2],nU key] w fun e w'=>e= .returned (.int .i64 (lM p.1 key))∧Below w.heap.size w w':=by
 have HC:=qd (fun(W:World)=>PU p.1 key W);go_in;go_wp2_with fail;refine(HC.out _).mono ?_;rintro e wq ⟨rfl,rfl⟩;go_wp2;go_ret;exact⟨rfl,(Below.refl w.heap.size w).alloc (Nat.le_refl _) _⟩
end Go.Proofs.YtkkibocdfijnhaaGreatDoor
