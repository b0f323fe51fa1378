/- script.Hashes by its contract. -/
import Derived.Test.YtkddpchpcepjgaaGreatDoorRunD
import Derived.Laws.CopyOwn
import Derived.Laws.AppendOwn
import Derived.Shelf.Spec.SlicesInsert
namespace Go.Proofs.YtkddpchpcepjgaaGreatDoor
set_option maxRecDepth 100000
set_option maxHeartbeats 4000000
open Go.RowKit uq Go.Maps cu
theorem JT:type_of% @List.length_drop:=@List.length_drop
theorem km:type_of% @List.getElem?_take_of_lt:=@List.getElem?_take_of_lt
theorem K0:type_of% @List.mem_of_mem_drop:=@List.mem_of_mem_drop
theorem K2:type_of% @Array.length_toList:=@Array.length_toList
theorem vf:type_of% @List.drop_of_length_le:=@List.drop_of_length_le
variable {l : List aB} {o : aB} {w : World} {base e n size : Nat} {v : Value} {xs : List Value}
def sS (k v h:Int):List Value:=[.int .u64 k,.int .u64 v,.int .u64 h]
def kD (l:List aB):List Value:=l.flatMap λo=>sS o.key 0 o.hash
theorem YU:(Tryz.prog.info? 67).map (λi=>(i.zero,i.size,i.bytes))=some (some (.agg #[.int .u64 0,.int .u64 0,.int .u64 0]),3,24):=by kernel_rfl
theorem YV:sZ Tryz.prog 64 67 3 24:=BO Tryz.underlying64 YU rfl (by decide) (by decide)
def cntF (l:List aB)(y:Int):Option Int:=if cnt l y=0 then none else some (cnt l y:Int)
theorem abJ (l:List aB)(y:Int):(cntF l y).getD 0=(cnt l y:Int):=by
 unfold cntF;split
 ·next h=>rw[h];rfl
 ·rfl
theorem YW (h:cZ o.kind=true):cntF (l++[o])=λy=>if y=o.key then some ((cnt l o.key:Int)+1)else cntF l y:=by
 funext y;unfold cntF;rw[QV,h];by_cases hy:y=o.key
 ·subst hy;simp
 ·have:(o.key==y)=false:=by simp;exact λe=>hy e.symm
  simp[this,hy]
theorem YX (h:cZ o.kind=false):cntF (l++[o])=cntF l:=by
 funext y;unfold cntF;rw[QV,h];simp
structure afg (w:World)(l:List aB)(k:Nat)(v:Value)(wr:World):Prop where
 o:wr.ownsRow (w.heap.size+1) 67 3 v (firsts (l.take k)).length (kD (firsts (l.take k)))
 map:iG wr Tryz.prog 37 3 .u64 .i64 w.heap.size k (cntF (l.take k))
 below:Below w.heap.size w wr
 size:w.heap.size+1<=wr.heap.size
def Rc (w:World)(l:List aB)(e:Ending)(w':World):Prop:=
 ∃v,e= .returned v/\w'.ownsRow w.heap.size 67 3 v (firsts l).length (kD (firsts l))/\Below w.heap.size w w'
theorem Aa {base':Nat}(h:w.ownsRow base e size v n xs)(hb:base'<=base):w.ownsRow base' e size v n xs:=by
 refine⟨h.1, ?_⟩;rcases h.2 with h2|⟨g,cap,cur,hv,hg,r⟩
 ·exact .inl h2
 ·exact .inr ⟨g,cap,cur,hv,by omega,r⟩
theorem TU {w1:World}{b:Nat}(h:w.ownsRow base e size v n xs)(hg:w.grownBy w1 (some b))(hb:b<base):w1.ownsRow base e size v n xs:=by
 refine h.kept hg ?_
 cases hv:v.ownBlock with
 |none=>exact .inl rfl
 |some k=>
  have hk:=h.lt k hv;right;intro e
  injection e with e
  rcases h.2 with⟨rfl,_⟩|⟨g,cap,cur,rfl,hg2,_⟩
  ·simp[Value.ownBlock]at hv
  ·have:g=k:=by simpa[Value.ownBlock]using hv
   omega
theorem Oa (A:Option Addr)(n c:Nat)(l:List aB)(w:World)(h:Reads w w.heap.size 5 A n (aQ l))(hn:n<=65536)(hwf:∀o∈l,pz o):
  Calls Tryz.prog 20 #[.slice A n c] w (Rc w l):=by
 have hl:l.length=n:=by have:=h.1;rw[dZ]at this;omega
 have hmm:=@run_makeMap Tryz.prog;go_in;go_wp2;go_loopw [4,6,10] (λv _ i wr=>∃k:Nat,k<=n/\i= .int .i64 k/\afg w l k v wr) (λ_ _ i _=>n-(intOf i).toNat)
 case atStart=>exact⟨0,by omega,rfl,World.ownsRow_nil _ _ _ _,iG.made _ _ _ _ _ _,(Below.refl _ _).alloc (zb _) _,by simp⟩
 case round=>
  obtain⟨k,hk,rfl,hc⟩:=hrel;by_cases hlt:k<n
  ·have ho:l[k]?=some (l[k]'(by omega)):=zg _;have hw0:=hwf _ (List.getElem_mem (show k<l.length by omega));generalize l[k]'(by omega)=o at ho hw0;obtain⟨b,off,rfl,hb,c0,c1,c2,c3,c4⟩:=jE (h.below hc.below) ho;have htk:=iy ho;have hfs:=GI (l.take k) o;have hca:=adz (l.take k) o
   have hlen:(l.take k).length=k:=by rw[qn];omega
   have hfl:(firsts (l.take k)).length<=k:=by have:=Dt (l.take k);omega
   have hcl:cnt (l.take k) o.key<=k:=by have:=ae6 (l.take k) o.key;omega
   rw[<-htk]at hfs;obtain⟨_,_,y2,y3,_,_,y6,y7,_,_⟩:=hw0;have hwk:=qd (wf_u64 y2 y3);have hmap:=hc.map;have hbel:=hc.below;have hout:=hc.o;have hsz:=hc.size;clear hc ho hlen
   have hlt':(k:Int)<(n:Int):=by omega
   cases hK:cZ o.kind with
   |false=>
    rw[hK,vq,if_neg (by simp),yy]at hfs
    have hcs:cntF (l.take (k+1))=cntF (l.take k):=by rw[htk];exact YX hK
    have YZ:=qd hfs;have Y0:=qd hcs;have HK:=qd (show∀W,Calls Tryz.prog 46 #[.int .i64 o.kind] W λe w'=>e= .returned (.bool false)/\W=w' from λW=>by have:=qx o.kind W;rw[hK]at this;exact this);clear hfs hcs hca htk hK;go_wp2_with (go_at_call 46;refine(HK.o _).mono ?_;rintro e w1 ⟨rfl,rfl⟩);go_roundw
    case rel=>exact⟨k+1,by omega,by go_num,by rw[YZ.o];exact hout.alloc _,by rw[Y0.o];obtain⟨D,d1,d2⟩:=hmap.alloc _;exact⟨D,d1.mono (by omega),d2⟩,hbel.alloc hbel.size _,by simp;omega⟩
    case measure=>first|(simp[intOf];done)|(simp[intOf];omega)
   |true=>
    rw[hK,J1]at hfs
    have hcs:cntF (l.take (k+1))=λy=>if y=o.key then some ((cnt (l.take k) o.key:Int)+1)else cntF (l.take k) y:=by rw[htk];exact YW hK
    have hcg:=abJ (l.take k) o.key;have Y0:=qd hcs;have HCG:=qd hcg;have HK:=qd (show∀W,Calls Tryz.prog 46 #[.int .i64 o.kind] W λe w'=>e= .returned (.bool true)/\W=w' from λW=>by have:=qx o.kind W;rw[hK]at this;exact this);clear hcs hcg htk hK;by_cases hz:cnt (l.take k) o.key=0
    ·rw[hca.1 hz]at hfs;simp only[Bool.not_false,if_true]at hfs;have YZ:=qd hfs;have HZ:=qd hz;clear hfs hca hz
     go_wp2_with (first
      |(go_at_call 46;refine(HK.o _).mono ?_;rintro e w1 ⟨rfl,rfl⟩)
      | (at_lookup; first
        |(refine vY rfl _ _ rfl Tryz.underlying37 Tryz.underlying106 Tryz.underlying3 (CP _) rfl hm2 o.key rfl hwk.o ?_;simp only[if_true,Ys])
        |(refine vY rfl _ _ rfl Tryz.underlying37 Tryz.underlying106 Tryz.underlying3 (CP _) rfl (hmap.alloc _) o.key rfl hwk.o ?_;rw[HCG.o,HZ.o]))
      |(at_mapUpdate;refine pG rfl _ _ _ rfl Tryz.underlying37 Tryz.underlying106 Tryz.underlying3 rfl (hmap.alloc _) (by unfold maxLen;omega) o.key 1 rfl rfl hwk.o (by decide) ?_;intro w2 hm2 hg2;have hout2:=TU (hout.alloc _) hg2 (by omega);have VO:=(hbel.alloc hbel.size _).grown hg2 (by have:=hbel.size;simp;omega) (λj hj=>by cases hj;exact zb _);have hop:=(aj.new wr 45 #[.int .i64 o.kind,.int .u64 o.key,.int .u64 o.val,.int .u64 o.hash,.int .i64 o.iter]).grown hg2 (by intro e;injection e with e;omega);have q1:w2.cell? ⟨wr.heap.size,1,none⟩=some (.int .u64 o.key):=hop.cell 1;have q3:w2.cell? ⟨wr.heap.size,3,none⟩=some (.int .u64 o.hash):=hop.cell 3;have hsz2:w.heap.size+1<=w2.heap.size:=by have:=hg2.size;simp at this;omega)
      |(at_builtin;refine gD rfl rfl YV hout2 rfl rfl (by simp) rfl rfl (by omega) hsz2 ?_;intro v3 w3 hown3 hg3))
     go_roundw
     case rel=>exact⟨k+1,by omega,by go_num,by rw[YZ.o,ZD];simpa[kD,sS]using hown3,by rw[Y0.o,HZ.o];exact(hm2.below hg3.below (by omega)).congr λy=>rfl,VO.trans (hg3.below.mono (by omega)),by have:=hg3.size;omega⟩
     case measure=>first|(simp[intOf];done)|(simp[intOf];omega)
    ·have hany:(l.take k).any (fV o)=true:=by
      cases ha:(l.take k).any (fV o)with
      |true=>rfl
      |false=>exact absurd (hca.2 ha) hz
     rw[hany]at hfs;simp only[vy,yd,xx,yy]at hfs;have YZ:=qd hfs;obtain⟨m,hm⟩:∃m:Nat,cnt (l.take k) o.key=m:=⟨_,rfl⟩;rw[hm]at hcl hz HCG Y0
     have hne:(((m:Int)+1)==1)=false:=by simp;omega
     clear hfs hca hany hm
     go_wp2_with (first
      |(go_at_call 46;refine(HK.o _).mono ?_;rintro e w1 ⟨rfl,rfl⟩)
      | (at_lookup; first
        |(refine vY rfl _ _ rfl Tryz.underlying37 Tryz.underlying106 Tryz.underlying3 (CP _) rfl hm2 o.key rfl hwk.o ?_;simp only[if_true,Ys])
        |(refine vY rfl _ _ rfl Tryz.underlying37 Tryz.underlying106 Tryz.underlying3 (CP _) rfl (hmap.alloc _) o.key rfl hwk.o ?_;rw[HCG.o]))
      |(at_mapUpdate;refine pG rfl _ _ _ rfl Tryz.underlying37 Tryz.underlying106 Tryz.underlying3 rfl (hmap.alloc _) (by unfold maxLen;omega) o.key ((m:Int)+1) rfl rfl hwk.o (wf_i64 (by omega) (by omega)) ?_;intro w2 hm2 hg2;have hout2:=TU (hout.alloc _) hg2 (by omega);have VO:=(hbel.alloc hbel.size _).grown hg2 (by have:=hbel.size;simp;omega) (λj hj=>by cases hj;exact zb _);have hop:=(aj.new wr 45 #[.int .i64 o.kind,.int .u64 o.key,.int .u64 o.val,.int .u64 o.hash,.int .i64 o.iter]).grown hg2 (by intro e;injection e with e;omega);have q1:w2.cell? ⟨wr.heap.size,1,none⟩=some (.int .u64 o.key):=hop.cell 1;have q3:w2.cell? ⟨wr.heap.size,3,none⟩=some (.int .u64 o.hash):=hop.cell 3;have hsz2:w.heap.size+1<=w2.heap.size:=by have:=hg2.size;simp at this;omega))
     go_roundw
     case rel=>exact⟨k+1,by omega,by go_num,by rw[YZ.o];exact hout2,by rw[Y0.o];exact hm2,VO,hsz2⟩
     case measure=>first|(simp[intOf];done)|(simp[intOf];omega)
  ·obtain rfl:k=n:=by omega
   have hout:=Aa hc.o (base':=w.heap.size) (by omega);rw[ym (by omega)]at hout;have hbel:=hc.below;clear hc;go_wp2;go_ret;exact⟨_,rfl,hout,hbel⟩
end Go.Proofs.YtkddpchpcepjgaaGreatDoor

/-! A partial function as a row of pairs, rising by keys: looked up, put, taken out. No program in sight. -/
namespace Go.Proofs.YtkddpchpcepjgaaGreatDoor.J8
set_option maxRecDepth 100000
set_option maxHeartbeats 4000000
open Go.RowKit uq Go.Maps cu J8
variable {p : Nat × Nat} {k v : Nat}
abbrev PL:=List (Nat×Nat)
def gN (l:PL):Prop:=l.Pairwise λa b=>a.1<b.1
def iH (l:PL)(k:Nat):Nat:=l.countP λp=>decide (p.1<k)
def qy (l:PL)(k:Nat):Bool:=(l[iH l k]?).any λp=>p.1==k
def jo (l:PL)(k:Nat):Option Nat:=(l.find? λp=>p.1==k).map Prod.snd
def pE (l:PL)(k v:Nat):PL:=if qy l k then l.set (iH l k) (k,v)else l.take (iH l k)++(k,v)::l.drop (iH l k)
def Iw (l:PL)(k:Nat):PL:=if qy l k then l.eraseIdx (iH l k)else l
theorem K5 (l:PL)(k:Nat):iH l k<=l.length:=List.countP_le_length
theorem yC:∀{l:PL} {k i:Nat} {p:Nat×Nat},gN l->l[i]?=some p->(i<iH l k↔p.1<k)
 | [],_,_,_,_,h=>by simp at h
 |x::l,k,i,p,ha,h=>by
  have ha':=List.pairwise_cons.1 ha;unfold iH;rw[xF];by_cases hx:x.1<k
  ·simp only[hx,decide_true,if_true]
   cases i with
   |zero=>obtain rfl:=QP h;simp[hx]
   |succ i=>
    have:=yC (k:=k) (i:=i) ha'.2 h;unfold iH at this;omega
  ·simp only[hx,decide_false]
   have h0:l.countP (λp=>decide (p.1<k))=0:=by
    rw[List.countP_eq_zero];intro y hy hd;have h1:=ha'.1 y hy
    have h2:y.1<k:=by simpa using hd
    omega
   rw[h0]
   have hp:x.1<=p.1:=by
    cases i with
    |zero=>obtain rfl:=QP h;exact zb _
    |succ i=>exact Nat.le_of_lt (ha'.1 p (zE h))
   simp;omega
theorem wW {l:PL}(h:gN l){i j:Nat}{q:Nat×Nat}(hij:i<j)(hp:l[i]?=some p)(hq:l[j]?=some q):p.1<q.1:=by
 obtain⟨h1,rfl⟩:=zz.1 hp;obtain⟨h2,rfl⟩:=zz.1 hq;exact kf.1 h i j h1 h2 hij
theorem afh {l:PL}(h:∀(i j:Nat) (p q:Nat×Nat),i<j->l[i]?=some p->l[j]?=some q->p.1<q.1):gN l:=
 kf.2 λi j h1 h2 hij=>h i j _ _ hij (zg h1) (zg h2)
theorem iK {l:PL}(ha:gN l):jo l k=some v↔(k,v)∈l:=by
 unfold jo;constructor
 ·intro h;obtain⟨p,hp,rfl⟩:=yl.1 h;have h1:=Vc hp;have h2:=kh hp
  have:p.1=k:=by simpa using h1
  rw[<-this];exact h2
 ·intro h
  cases hf:l.find? λp=>p.1==k with
  |none=>
   have:=j9.1 hf _ h;simp at this
  |some p=>
   have h1:p.1=k:=by simpa using Vc hf
   obtain⟨i,hi⟩:=qs h;obtain⟨j,hj⟩:=qs (kh hf)
   have hij:i=j:=by
    rcases kp i j with hl|hl|hl
    ·have:=wW ha hl hi hj;simp only at this;omega
    ·exact hl
    ·have:=wW ha hl hj hi;simp only at this;omega
   subst hij;rw[hi]at hj;obtain rfl:=QP hj;rfl
theorem Ab {l:PL}:jo l k=none↔∀p∈l,p.1≠k:=by
 unfold jo;rw[Option.map_eq_none_iff,j9];simp
theorem BL {l:PL}(ha:gN l):qy l k=true↔∃v,l[iH l k]?=some (k,v)/\jo l k=some v:=by
 unfold qy
 cases h:l[iH l k]? with
 |none=>simp
 |some p=>
  simp only[Option.any_some];constructor
  ·intro hk
   have hk':p.1=k:=by simpa using hk
   subst hk';exact⟨p.2,rfl,(iK ha).2 (zE h)⟩
  ·rintro⟨v,hv,_⟩;obtain rfl:=QP hv;simp
theorem Ac {l:PL}(ha:gN l)(h:qy l k=false):jo l k=none:=by
 rw[Ab];intro p hp he;obtain⟨i,hi⟩:=qs hp;have h1:=yC (k:=k) ha hi
 have hge:iH l k<=i:=by omega
 have hlt:iH l k<l.length:=by have:=(zz.1 hi).1;omega
 obtain⟨q,hq⟩:∃q,l[iH l k]?=some q:=⟨_,zg hlt⟩;have h2:=not_congr (yC (k:=k) ha hq);rcases Nat.lt_or_eq_of_le hge with hl|hl
 ·have:=wW ha hl hq hi;omega
 ·unfold qy at h;rw[hl,hi]at h;simp[he]at h
theorem FD {l:PL}(ha:gN l)(k:Nat):qy l k=(jo l k).isSome:=by
 cases h:qy l k with
 |true=>obtain⟨v,_,h2⟩:=(BL ha).1 h;rw[h2];rfl
 |false=>rw[Ac ha h];rfl
theorem abK {l:PL}(ha:gN l):p∈pE l k v↔p=(k,v)\/(p∈l/\p.1≠k):=by
 unfold pE;by_cases hk:qy l k=true
 ·rw[if_pos hk];obtain⟨u,hu,_⟩:=(BL ha).1 hk;obtain⟨hlt,hu'⟩:=zz.1 hu;constructor
  ·intro h;obtain⟨i,hi⟩:=qs h;rw[qr]at hi;by_cases he:iH l k=i
   ·rw[if_pos he,if_pos hlt]at hi;exact .inl (QP hi).symm
   ·rw[if_neg he]at hi;refine .inr ⟨zE hi,λhke=>he ?_⟩;rcases kp (iH l k) i with hl|hl|hl
    ·have:=wW ha hl hu hi;simp only at this;omega
    ·exact hl
    ·have:=wW ha hl hi hu;simp only at this;omega
  ·rintro(rfl|⟨h,hne⟩)
   ·exact zE (i:=iH l k) (by rw[qr,if_pos rfl,if_pos hlt])
   ·obtain⟨i,hi⟩:=qs h;refine zE (i:=i) ?_;rw[qr,if_neg,hi];intro he;subst he;rw[hu]at hi;obtain rfl:=QP hi;exact hne rfl
 ·rw[if_neg hk];have h0:=Ab.1 (Ac ha (by simpa using hk));rw[Zs,zt];constructor
  ·rintro(h|h|h)
   ·exact .inr ⟨List.mem_of_mem_take h,h0 p (List.mem_of_mem_take h)⟩
   ·exact .inl h
   ·exact .inr ⟨K0 h,h0 p (K0 h)⟩
  ·rintro(h|⟨h,_⟩)
   ·exact .inr (.inl h)
   ·rw[<-JP (iH l k) l,Zs]at h;rcases h with h|h
    ·exact .inl h
    ·exact .inr (.inr h)
theorem CR {l:PL}(ha:gN l)(k v:Nat):gN (pE l k v):=by
 unfold pE;by_cases hk:qy l k=true
 ·rw[if_pos hk];obtain⟨u,hu,_⟩:=(BL ha).1 hk
  have key:∀(i:Nat) (p:Nat×Nat),(l.set (iH l k) (k,v))[i]?=some p->∃p':Nat×Nat,l[i]?=some p'/\p'.1=p.1:=by
   intro i p hi;rw[qr]at hi;by_cases he:iH l k=i
   ·rw[if_pos he]at hi;split at hi
    ·obtain rfl:=QP hi;exact⟨(k,u),he▸hu,rfl⟩
    ·cases hi
   ·rw[if_neg he]at hi;exact⟨p,hi,rfl⟩
  refine afh λi j p q hij hp hq=> ?_;obtain⟨p',h1,e1⟩:=key i p hp;obtain⟨q',h2,e2⟩:=key j q hq;have:=wW ha hij h1 h2;omega
 ·rw[if_neg hk];have h0:=Ab.1 (Ac ha (by simpa using hk))
  have hlow:∀p∈l.take (iH l k),p.1<k:=by
   intro p hp;obtain⟨i,hi⟩:=qs hp;rw[X1]at hi;split at hi
   ·next hlt=>exact(yC ha hi).1 hlt
   ·cases hi
  have hhigh:∀p∈l.drop (iH l k),k<p.1:=by
   intro p hp;have hne:=h0 p (K0 hp);obtain⟨i,hi⟩:=qs hp;rw[List.getElem?_drop]at hi;have:=not_congr (yC (k:=k) ha hi);omega
  unfold gN;rw[List.pairwise_append,List.pairwise_cons];refine⟨ha.sublist (List.take_sublist _ _),⟨λp hp=>hhigh p hp,ha.sublist (List.drop_sublist _ _)⟩,λp hp q hq=> ?_⟩;have h1:=hlow p hp;rcases zt.1 hq with rfl|hq
  ·exact h1
  ·have:=hhigh q hq;omega
theorem R7 {l:PL}(ha:gN l)(k v:Nat):(pE l k v).length=if(jo l k).isSome then l.length else l.length+1:=by
 rw[<-FD ha];unfold pE;by_cases hk:qy l k=true
 ·rw[if_pos hk,if_pos hk,qq]
 ·rw[if_neg hk,if_neg hk,ZD,ZS,qn,JT];have:=K5 l k;omega
theorem abL {l:PL}(ha:gN l):p∈Iw l k↔p∈l/\p.1≠k:=by
 unfold Iw;by_cases hk:qy l k=true
 ·rw[if_pos hk];obtain⟨u,hu,_⟩:=(BL ha).1 hk;rw[List.mem_eraseIdx_iff_getElem?];constructor
  ·rintro⟨i,hne,hi⟩;refine⟨zE hi,λhke=>hne ?_⟩;rcases kp (iH l k) i with hl|hl|hl
   ·have:=wW ha hl hu hi;simp only at this;omega
   ·exact hl.symm
   ·have:=wW ha hl hi hu;simp only at this;omega
  ·rintro⟨h,hne⟩;obtain⟨i,hi⟩:=qs h;refine⟨i,λhe=>hne ?_,hi⟩;subst he;rw[hu]at hi;obtain rfl:=QP hi;rfl
 ·rw[if_neg hk];have h0:=Ab.1 (Ac ha (by simpa using hk));exact⟨λh=>⟨h,h0 p h⟩,λh=>h.1⟩
theorem Rf {l:PL}(ha:gN l)(k:Nat):gN (Iw l k):=by
 unfold Iw;split
 ·exact ha.sublist (List.eraseIdx_sublist _ _)
 ·exact ha
theorem TV:∀{l m:PL},gN l->gN m->(∀p,p∈l↔p∈m)->l=m
 | [],[],_,_,_=>rfl
 | [],y::m,_,_,h=>by have:=(h y).2 (by simp);simp at this
 |x::l,[],_,_,h=>by have:=(h x).1 (by simp);simp at this
 |x::l,y::m,hl,hm,h=>by
  have hl':=List.pairwise_cons.1 hl;have hm':=List.pairwise_cons.1 hm
  have hxy:x=y:=by
   rcases zt.1 ((h x).1 (by simp))with e|e
   ·exact e
   ·rcases zt.1 ((h y).2 (by simp))with e2|e2
    ·exact e2.symm
    ·have:=hm'.1 x e;have:=hl'.1 y e2;omega
  subst hxy;congr 1;refine TV hl'.2 hm'.2 λp=>⟨λhp=> ?_,λhp=> ?_⟩
  ·rcases zt.1 ((h p).1 (by simp[hp]))with rfl|e
   ·have:=hl'.1 _ hp;omega
   ·exact e
  ·rcases zt.1 ((h p).2 (by simp[hp]))with rfl|e
   ·have:=hm'.1 _ hp;omega
   ·exact e
theorem Iy {l m:PL}(hl:gN l)(hm:gN m)(h:∀k,jo l k=jo m k):l=m:=
 TV hl hm λp=>by rw[<-iK hl (k:=p.1) (v:=p.2),<-iK hm (k:=p.1) (v:=p.2),h]
def aiF (l:PL):PL:=l.foldl (λt p=>pE t p.1 p.2) []
end Go.Proofs.YtkddpchpcepjgaaGreatDoor.J8

/-! A copy of elements of any size, and what it leaves of a row of the call's own. No program in sight. -/
namespace Go.Proofs.YtkddpchpcepjgaaGreatDoor
set_option maxRecDepth 100000
set_option maxHeartbeats 4000000
open Go.RowKit uq Go.Maps cu J8
variable {d n o : Nat}
theorem Ad {P:Program}(w:World)(dT sT ty elem:TypeId)(sz g o dLen dCap:Nat)(a:Addr)(sLen sCap:Nat)(cur:Array Value)(t:TypeId)(cs:List Value)(hu:P.underlying dT=some (.slice elem))(hs:(P.info? elem).map (·.size)=some sz)(hg:w.heap[g]?=some (.cells cur t (0,0)))(hn:cs.length=Nat.min sLen dLen*sz)(hsrc:∀j v,cs[j]?=some v->w.cell? (a.add j)=some v)(hfit:o+cs.length<=cur.size)(h1:∀v∈cs,v.oneCell'=true):
  (Builtin.copy_ #[dT,sT] ty #[.slice (some ⟨g,o,none⟩) dLen dCap,.slice (some a) sLen sCap]).run P w=
   .ok (goInt (Nat.min sLen dLen)) (w.setRow g (splice cur.toList o cs).toArray):=by
 have hl:=run_loadCells_list (P:=P) w a cs hsrc;have hst:=run_storeCells_at P g o t cs 0 cur w hg (by simpa using hfit) h1
 cases hq:P.info? elem with
 |none=>simp[hq]at hs
 |some i=>
  have hi:i.size=sz:=by simpa[hq]using hs
  simp[Builtin.copy_,XN hu,Builtin.lenOf,Builtin.firstCells,sizeOf,typeInfo,hq,hi,<-hn,hl,hst,splice]
section
variable {α : Type} {L cs xs vs : List α}
theorem sU (ho:o<=L.length)(j:Nat):(splice L o cs)[j]?=if j<o then L[j]? else if j<o+cs.length then cs[j-o]? else L[j]?:=by
 unfold splice;by_cases h1:j<o
 ·rw[if_pos h1,Z2 (by rw[qn];omega),km h1]
 ·rw[if_neg h1,Z1 (by rw[qn];omega),qn,vz ho];by_cases h2:j<o+cs.length
  ·rw[if_pos h2,Z2 (by omega)]
  ·rw[if_neg h2,Z1 (by omega),List.getElem?_drop];congr 1;omega
theorem qF (h:o+cs.length<=L.length):(splice L o cs).length=L.length:=length_splice L o cs h
theorem Y1 (hx:L.take n=xs)(hd:d<=n)(hn:n+vs.length<=L.length):(splice (splice L (d+vs.length) (xs.drop d)) d vs).take (n+vs.length)=xs.take d++(vs++xs.drop d):=by
 have hl:xs.length=n:=by rw[<-hx,qn];omega
 have h1:(splice L (d+vs.length) (xs.drop d)).length=L.length:=qF (by rw[JT];omega);apply Kx;intro j;by_cases hj:j<n+vs.length
 ·rw[km hj,sU (by omega)];by_cases j1:j<d
  ·rw[if_pos j1,sU (by omega),if_pos (by omega),Z2 (by rw[qn];omega),km j1,<-hx,km (by omega)]
  ·rw[if_neg j1,Z1 (by rw[qn];omega),qn,vz (by omega)];by_cases j2:j<d+vs.length
   ·rw[if_pos j2,Z2 (by omega)]
   ·rw[if_neg j2,sU (by omega),if_neg j2,if_pos (by rw[JT];omega),Z1 (by omega)];congr 1;omega
 ·rw[yo (by rw[qn];omega),yo (by simp;omega)]
theorem abM {Z:List α}(hl:xs.length=n)(hd:d<=n)(hZ:n+vs.length-d<=Z.length):(splice (splice (xs.take d++Z) d vs) (d+vs.length) (xs.drop d)).take (n+vs.length)=xs.take d++(vs++xs.drop d):=by
 have h0:(xs.take d++Z).length=d+Z.length:=by rw[ZD,qn];omega
 have h1:(splice (xs.take d++Z) d vs).length=d+Z.length:=by rw[qF (by omega),h0]
 apply Kx;intro j;by_cases hj:j<n+vs.length
 ·rw[km hj,sU (by omega)];by_cases j1:j<d
  ·rw[if_pos (by omega),sU (by omega),if_pos j1,Z2 (by rw[qn];omega),Z2 (by rw[qn];omega)]
  ·rw[Z1 (by rw[qn];omega),qn,vz (by omega)];by_cases j2:j<d+vs.length
   ·rw[if_pos j2,sU (by omega),if_neg j1,if_pos j2,Z2 (by omega)]
   ·rw[if_neg j2,if_pos (by rw[JT];omega),Z1 (by omega)];congr 1;omega
 ·rw[yo (by rw[qn];omega),yo (by simp;omega)]
end
theorem J9 {w:World}{base g cap sz:Nat}{t:TypeId}{cur cur':Array Value}{xs:List Value}(hg:w.heap[g]?=some (.cells cur t (0,0)))(hb:base<=g)(hc:n<=cap)(hm:cap<=maxLen)(hs:cur'.size=cap*sz)(hx:cur'.toList.take (n*sz)=xs):
  (w.setRow g cur').ownsRow base t sz (.slice (some ⟨g,0,none⟩) n cap) n xs/\Mod [g] w (w.setRow g cur'):=by
 have hlt:g<w.heap.size:=(qi.1 hg).1;refine⟨⟨?_,.inr ⟨g,cap,cur',rfl,hb,setRow_heap w g cur cur' t (0,0) hg,hc,hm,hs,hx⟩⟩,rfl,rfl,rfl,by simp[World.setRow],λk hk hne=>setRow_other w g k cur' (λe=>hne (by simp[e]))⟩;rw[<-hx,qn,K2,hs];have:=xt sz hc;omega
end Go.Proofs.YtkddpchpcepjgaaGreatDoor

/-! A function as a rising row of pairs: its block, its row; a key found by halves. No statement of the claim. -/
namespace Go.Proofs.YtkddpchpcepjgaaGreatDoor
set_option maxRecDepth 100000
set_option maxHeartbeats 4000000
open Go.RowKit uq Go.Maps cu J8
def dQ (p:Nat×Nat):List Value:=[nU p.1,nU p.2]
theorem kQ {p:Nat×Nat}{q:Nat}:∀{l:PL} {i:Nat},l[i]?=some p->q<2->(l.flatMap dQ)[i*2+q]?=some ((dQ p)[q]!)
 | [],_,h,_=>by simp at h
 |x::l,0,h,hq=>by
  obtain rfl:=QP h;rw[yn,Z2 (by simp[dQ];omega)]
  have:q=0\/q=1:=by omega
  rcases this with rfl|rfl<;>rfl
 |x::l,i+1,h,hq=>by
  rw[yn,Z1 (by simp[dQ];omega)];have:=kQ (l:=l) (i:=i) h hq;rw[show(i+1)*2+q-(dQ x).length=i*2+q by simp[dQ];omega];exact this
theorem iX (l:PL):(l.flatMap dQ).length=l.length*2:=by
 induction l with
 |nil=>rfl
 |cons x l ih=>rw[yn,ZD,ih,ZS];simp[dQ];omega
theorem Fb (l:PL):∀v∈l.flatMap dQ,v.oneCell'=true:=by
 intro v hv;obtain⟨p,_,hp⟩:=jz.1 hv;simp only[dQ,zt,Q1,XS]at hp
 rcases hp with rfl|rfl<;>rfl
theorem VP (l:PL)(i:Nat):(l.flatMap dQ).take (i*2)=(l.take i).flatMap dQ:=by
 by_cases hi:i<=l.length
 ·have h:=congrArg (List.flatMap dQ) (JP i l);rw[ka]at h;rw[<-h,List.take_append_of_le_length (by rw[iX,qn];omega),ym (by rw[iX,qn];omega)]
 ·rw[ym (by rw[iX];omega),ym (by omega)]
theorem VQ (l:PL)(i:Nat):(l.flatMap dQ).drop (i*2)=(l.drop i).flatMap dQ:=by
 have h:=congrArg (List.flatMap dQ) (JP i l);rw[ka]at h;by_cases hi:i<=l.length
 ·rw[<-h,List.drop_append_of_le_length (by rw[iX,qn];omega),vf (by rw[iX,qn];omega),ya]
 ·rw[vf (by rw[iX];omega),vf (by omega)];rfl
theorem Y2 {l:PL}{i:Nat}(h:i<l.length)(k v:Nat)(hk:(l[i]?).map Prod.fst=some k):(l.flatMap dQ).set (i*2+1) (nU v)=(l.set i (k,v)).flatMap dQ:=by
 induction l generalizing i with
 |nil=>simp at h
 |cons x l ih=>
  cases i with
  |zero=>
   have:x.1=k:=by simpa using hk
   simp[dQ,this]
  |succ i=>
   rw[j8,yn,yn,<-ih (by simpa using h) (by simpa using hk),ki _ _ (by simp[dQ];omega)];congr 2;simp[dQ];omega
theorem AL:(Tryz.prog.info? 39).map (λi=>(i.zero,i.size,i.bytes))=some (some (.agg #[.int .u64 0,.int .u64 0]),2,16):=by kernel_rfl
def wY (base:Nat)(w:World)(fb most:Nat)(F:List Nat)(l:PL):Prop:=
 ∃v,aj w fb 105 #[nI most,v]/\w.ownsRow base 39 2 v l.length (l.flatMap dQ)/\F=fb::v.ownBlock.toList/\base<=fb/\gN l
def VR (base:Nat)(w w':World)(fb most:Nat)(F:List Nat)(l:PL):Prop:=
 ∃F',wY base w' fb most F' l/\(∀q∈F',q∈F\/w.heap.size<=q)/\Mod F w w'
theorem adF {w:World}{base n g sz:Nat}{e t:TypeId}{v:Value}{xs:List Value}{cs:Array Value}(h:w.ownsRow base e sz v n xs)(hB:aj w g t cs)(ht:t≠e):g∉v.ownBlock.toList:=by
 intro hg
 have hg':v.ownBlock=some g:=by simpa using hg
 rcases h.2 with⟨rfl,_⟩|⟨g',cap,cur,rfl,_,hh,_⟩
 ·cases hg'
 ·have:g'=g:=by simpa[Value.ownBlock]using hg'
  subst this;have h1:w.heap[g']?=some (.cells cs t (0,0)):=hB;rw[hh]at h1
  injection h1 with h1
  injection h1 with _ h1 _
  exact ht h1.symm
section
variable {base most fb n : Nat} {w w' : World} {F S : List Nat} {l l' : PL}
theorem wY.fC (h:wY base w fb most F l):∀q∈F,q<w.heap.size/\base<=q:=by
 obtain⟨v,h1,h2,rfl,h3,_⟩:=h;intro q hq;rcases zt.1 hq with rfl|hq
 ·exact⟨h1.lt,h3⟩
 ·have:=h2.lt q (by simpa using hq);exact⟨this.2,this.1⟩
theorem wY.mod (h:wY base w fb most F l)(hm:Mod S w w')(hS:∀q∈S,q∉F):wY base w' fb most F l:=by
 obtain⟨v,h1,h2,rfl,h3⟩:=h;refine⟨v,h1.mod hm (λhq=>hS fb hq (by simp)),⟨h2.1, ?_⟩,rfl,h3⟩;rcases h2.2 with k|⟨g,cap,cur,rfl,k2,k3,k4⟩
 ·exact .inl k
 ·refine .inr ⟨g,cap,cur,rfl,k2, ?_,k4⟩;rw[hm.block g (qi.1 k3).1 (λhq=>hS g hq (by simp[Value.ownBlock]))];exact k3
theorem wY.below (h:wY base w fb most F l)(hb:Below w.heap.size w w'):wY base w' fb most F l:=h.mod (Mod.of_below hb []) (by simp)
theorem wY.qO (h:wY base w fb most F l):gN l:=by
 obtain⟨v,_,_,_,_,h⟩:=h;exact h
end
def mQ (a b:Nat):Int:=if a<b then-1 else if b<a then 1 else 0
theorem Y3 (x:Int)(w:World):Calls Tryz.prog 149 #[.int .u64 x] w λy w'=>y= .returned (.bool false)/\w=w':=by
 go_in;go_wp2;go_ret;exact⟨by simp,rfl⟩
theorem R8 (a b:Nat)(w:World):Calls Tryz.prog 113 #[nU a,nU b] w λe w'=>e= .returned (.int .i64 (mQ a b))/\w=w':=by
 have HN:=qd (λ(z:Int) (W:World)=>Y3 z W);obtain⟨v,hv⟩:∃v,v=mQ a b:=⟨_,rfl⟩;rw[<-hv];rcases kp a b with h|h|h
 focus
  have h1:(a:Int)<(b:Int):=by omega
  obtain rfl:v= -1:=by rw[hv];unfold mQ;rw[if_pos h]
  clear hv h
 rotate_left
 focus
  subst h
  obtain rfl:v=0:=by rw[hv];unfold mQ;simp
  clear hv
 rotate_left
 focus
  have h1:¬(a:Int)<(b:Int):=by omega
  have h2:(b:Int)<(a:Int):=by omega
  obtain rfl:v=1:=by rw[hv];unfold mQ;rw[if_neg (by omega),if_pos h]
  clear hv h
 all_goals
  go_in;go_wp2_with fail;refine(HN.o _ _).mono ?_;rintro e wq ⟨rfl,rfl⟩;go_wp2_with fail;refine(HN.o _ _).mono ?_;rintro e wq ⟨rfl,rfl⟩;go_wp2;go_ret;exact⟨rfl,rfl⟩
theorem Rh (p:Nat×Nat)(key:Nat)(w:World):Calls Tryz.prog 85 #[.agg #[nU p.1,nU p.2],nU key] w λe w'=>e= .returned (.int .i64 (mQ p.1 key))/\Below w.heap.size w w':=by
 have HC:=qd (λ(W:World)=>R8 p.1 key W);go_in;go_wp2_with fail;refine(HC.o _).mono ?_;rintro e wq ⟨rfl,rfl⟩;go_wp2;go_ret;exact⟨rfl,(Below.refl w.heap.size w).alloc (zb _) _⟩
