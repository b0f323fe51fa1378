/- Going over a map by an iterator: what it has passed, step by step. No statement of the claim. -/
import Derived.Test.YtflbmgpmnocnbaaGreatDoorLaw21e
import Derived.Test.YtflbmgpmnocnbaaGreatDoorRmB
import Derived.Test.YtflbmgpmnocnbaaGreatDoorRmM
import Derived.Shelf.SlSortCmp.Insertion
import Derived.Shelf.GgSortFunc.InsertionK
namespace Go.Proofs.YtflbmgpmnocnbaaGreatDoor
open Go.RowKit AmC AmF
open Go.Sort (Holds PermIn SortedIn SWO putRow putCells grow mapBlock onCells HoldsK putRowK flatK get_flatK size_flatK)
section
structure Itm where
 st:Nat
 key:Nat
 val:Nat
def Itm.zero:Itm:=⟨0,0,0⟩
def Cur.passed (c:Cur)(e:Ent):Prop:=c.done=true∨lessE e ⟨c.key,0,c.hash⟩=true
inductive NextS (es:List Ent)(hs:List Nat)(c:Cur):Itm→Cur→Prop
 |done (h:c.done=true):NextS es hs c ⟨3,0,0⟩ c
 |yield (h:c.done=false) (hi:Nat) (m:Ent) (h1:c.hash≤hi) (h2:hi∈hs) (h3:hi<18446744073709551616) (h4:∀x∈hs,c.hash≤x→hi≤x) (hm:IsLeast ⟨c.key,0,c.hash⟩ (upto es hi) (some m)):NextS es hs c ⟨1,m.key,m.val⟩ (behind m.hash m.key)
 |skip (h:c.done=false) (hi:Nat) (h1:c.hash≤hi) (h2:hi∈hs) (h3:hi<18446744073709551616) (h4:∀x∈hs,c.hash≤x→hi≤x) (hm:IsLeast ⟨c.key,0,c.hash⟩ (upto es hi) none):NextS es hs c ⟨if hi<18446744073709551615 then 2 else 3,0,0⟩ (behind hi 18446744073709551615)
theorem behind_ok {h k:Nat}(h1:h<18446744073709551616):(behind h k).ok:=by
 unfold behind Cur.ok;split
 ·exact⟨h1,by simp only;omega⟩
 ·split
  ·exact⟨by simp only;omega,by simp⟩
  ·simp
theorem isLeast_unique {f:Ent}{l:List Ent}{o o':Option Ent}(hn:∀e∈l,∀e'∈l,e.key=e'.key→e=e')(h:IsLeast f l o)(h':IsLeast f l o'):o=o':=by
 cases o with
 |none=>
  cases o' with
  |none=>rfl
  |some m=>exact absurd (h m h'.1) (by rw[h'.2.1];simp)
 |some m=>
  cases o' with
  |none=>exact absurd (h' m h.1) (by rw[h.2.1];simp)
  |some m'=>
   have h1:=h.2.2 m' h'.1 h'.2.1;have h2:=h'.2.2 m h.1 h.2.1
   have:m.key=m'.key:=by simp[lessE]at h1 h2;omega
   rw[hn m h.1 m' h'.1 this]
theorem keys_apart {es:List Ent}(hn:(es.map Ent.key).Nodup):∀e∈es,∀e'∈es,e.key=e'.key→e=e':=fun e he e' he' hk=>by
 have e1:=look_some hn he;have e2:=look_some hn he';rw[hk,e2]at e1;exact(Option.some.inj e1).symm
section
variable {es out : List Ent} {hs : List Nat} {n : Nat} {c c' c'' : Cur} {i i' : Itm}
theorem NextS.unique (hn:(es.map Ent.key).Nodup)(h:NextS es hs c i c')(h':NextS es hs c i' c''):i=i'∧c'=c'':=by
 have hu:∀(hi hi':Nat),c.hash≤hi→hi∈hs→(∀x∈hs,c.hash≤x→hi≤x)→c.hash≤hi'→hi'∈hs→(∀x∈hs,c.hash≤x→hi'≤x)→hi=hi':=
  fun hi hi' a b d a' b' d'=>Nat.le_antisymm (d hi' b' a') (d' hi b a)
 have hk:∀hi:Nat,∀e∈upto es hi,∀e'∈upto es hi,e.key=e'.key→e=e':=fun hi e he e' he'=>keys_apart hn e (mem_upto.1 he).1 e' (mem_upto.1 he').1
 cases h with
 |done h=>
  cases h' with
  |done=>exact⟨rfl,rfl⟩
  |yield h'=>rw[h]at h';cases h'
  |skip h'=>rw[h]at h';cases h'
 |yield h hi m h1 h2 h3 h4 hm=>
  cases h' with
  |done h'=>rw[h]at h';cases h'
  |yield _ hi' m' h1' h2' h3' h4' hm'=>
   obtain rfl:=hu hi hi' h1 h2 h4 h1' h2' h4';have:=isLeast_unique (hk hi) hm hm';obtain rfl:=Option.some.inj this;exact⟨rfl,rfl⟩
  |skip _ hi' h1' h2' h3' h4' hm'=>
   obtain rfl:=hu hi hi' h1 h2 h4 h1' h2' h4';cases isLeast_unique (hk hi) hm hm'
 |skip h hi h1 h2 h3 h4 hm=>
  cases h' with
  |done h'=>rw[h]at h';cases h'
  |yield _ hi' m' h1' h2' h3' h4' hm'=>
   obtain rfl:=hu hi hi' h1 h2 h4 h1' h2' h4';cases isLeast_unique (hk hi) hm hm'
  |skip _ hi' h1' h2' h3' h4' hm'=>
   obtain rfl:=hu hi hi' h1 h2 h4 h1' h2' h4';exact⟨rfl,rfl⟩
structure Way (es:List Ent)(hs:List Nat)(n:Nat)(out:List Ent)(c:Cur):Prop where
 asc:Asc out
 mem:∀e,e∈out↔e∈es∧c.passed e
 cnt:c.done=false→n≤out.length+below_ hs c.hash
 ok:c.ok
theorem Way.start (es:List Ent)(hs:List Nat):Way es hs 0 [] ⟨0,0,false⟩:=⟨.nil,fun e=>by simp[Cur.passed,lessE],fun _=>Nat.zero_le _,by simp[Cur.ok]⟩
theorem passed_behind {es:List Ent}{hash key:Nat}(h1:hash<18446744073709551616)(h2:key<18446744073709551616)(he:∀e∈es,e.hash<18446744073709551616∧e.key<18446744073709551616){e:Ent}(h:e∈es):(behind hash key).passed e↔lessE e ⟨key+1,0,hash⟩=true:=by
 have:=he e h;unfold behind Cur.passed;split
 ·simp[lessE]
 ·split
  ·simp[lessE];omega
  ·simp[lessE];omega
theorem Way.walkSt (h:Way es hs n out c)(hd:c.done=false):WalkSt es hs n out c.key c.hash:=⟨h.asc,fun e=>by rw[h.mem e];unfold Cur.passed;rw[hd];simp,h.cnt hd⟩
theorem walk_way {hash key:Nat}(h:WalkSt es hs n out (key+1) hash)(h1:hash<18446744073709551616)(h2:key<18446744073709551616)(he:∀e∈es,e.hash<18446744073709551616∧e.key<18446744073709551616):Way es hs n out (behind hash key):=by
 refine⟨h.asc,fun e=>⟨fun hh=> ?_,fun hh=> ?_⟩,fun hd=> ?_,behind_ok h1⟩
 ·obtain⟨g1,g2⟩:=(h.mem e).1 hh;exact⟨g1,(passed_behind h1 h2 he g1).2 g2⟩
 ·exact(h.mem e).2 ⟨hh.1,(passed_behind h1 h2 he hh.1).1 hh.2⟩
 ·have h3:=h.cnt
  have:hash≤(behind hash key).hash:=by
   unfold behind at hd⊢;split
   ·exact Nat.le_refl _
   ·split
    ·exact Nat.le_succ _
    ·rename_i a b;rw[if_neg a,if_neg b]at hd;cases hd
  have:=below_mono hs this;omega
theorem Way.next (h:Way es hs n out c)(hn:(es.map Ent.key).Nodup)(he:∀e∈es,e.hash<18446744073709551616∧e.key<18446744073709551616)(hN:NextS es hs c i c'):
  ∃out',Way es hs (n+1) out' c'∧((i.st=1∧c.done=false∧∃m∈es,out'=out++[m]∧(∀e∈out,lessE e m=true)∧¬c.passed m∧i.key=m.key∧i.val=m.val∧c'=behind m.hash m.key)∨(i.st≠1∧out'=out∧i.key=0∧i.val=0∧(i.st=2∨i.st=3)∧(i.st=3↔c'.done=true))):=by
 cases hN with
 |done hd=>exact⟨out,⟨h.asc,h.mem,fun hh=>(by rw[hd]at hh;cases hh),h.ok⟩,.inr ⟨by simp,rfl,rfl,rfl,.inr rfl,by simp[hd]⟩⟩
 |yield hd hi m h1 h2 h3 h4 hm=>
  obtain⟨w1,w2,w3,w4⟩:=(h.walkSt hd).some_ hn hm;have hb:=he m w4;exact⟨out++[m],walk_way w1 hb.1 hb.2 he,.inl ⟨rfl,hd,m,w4,rfl,w2,fun hp=>(by rcases hp with hp|hp;rw[hd]at hp;cases hp;have:=hm.2.1;rw[hp]at this;cases this),rfl,rfl,rfl⟩⟩
 |skip hd hi h1 h2 h3 h4 hm=>
  have hcn:=h.cnt hd
  have hpass:∀e∈es,((behind hi 18446744073709551615).passed e↔c.passed e):=fun e hh=>by
   rw[passed_behind h3 (by omega) he hh];have hb:=he e hh;unfold Cur.passed;rw[hd];constructor
   ·intro hl;right;exact hm e (mem_upto.2 ⟨hh,by simp[lessE]at hl;omega⟩)
   ·rintro(hl|hl)
    ·cases hl
    ·simp[lessE]at hl⊢;omega
  refine⟨out,⟨h.asc,fun e=>⟨fun hh=> ?_,fun hh=> ?_⟩,fun hx=> ?_,behind_ok h3⟩,.inr ⟨?_,rfl,rfl,rfl, ?_, ?_⟩⟩
  ·obtain⟨g1,g2⟩:=(h.mem e).1 hh;exact⟨g1,(hpass e g1).2 g2⟩
  ·exact(h.mem e).2 ⟨hh.1,(hpass e hh.1).1 hh.2⟩
  ·have hx':hi<18446744073709551615:=by
    unfold behind at hx;rw[if_neg (by omega)]at hx;by_cases hlt:hi<18446744073709551615
    ·exact hlt
    ·rw[if_neg hlt]at hx;cases hx
   have hb:(behind hi 18446744073709551615).hash=hi+1:=by
    unfold behind;rw[if_neg (by omega),if_pos hx']
   rw[hb];have:=below_more (b:=hi+1) h2 h1 (by omega);omega
  ·simp only;split<;>omega
  ·simp only;split<;>simp
  ·unfold behind
   by_cases hlt:hi<18446744073709551615<;>simp[hlt]
theorem Way.few (h:Way es hs n out c)(hd:c.done=false)(hN:NextS es hs c i c'):n<es.length+hs.length:=by
 have h1:=h.cnt hd;have h2:out.length≤es.length:=sub_nodup h.asc.nodup (fun e he=>((h.mem e).1 he).1)
 have h3:below_ hs c.hash<hs.length:=by
  have hx:∃hi,c.hash≤hi∧hi∈hs:=by
   cases hN with
   |done h=>rw[hd]at h;cases h
   |yield h hi m h1 h2=>exact⟨hi,h1,h2⟩
   |skip h hi h1 h2=>exact⟨hi,h1,h2⟩
  obtain⟨hi,g1,g2⟩:=hx;have:=below_more (b:=hi+1) g2 g1 (by omega);have:=below_le hs (hi+1);omega
 omega
theorem Way.all_ (h:Way es hs n out c)(hn:(es.map Ent.key).Nodup)(hd:c.done=true):out.Perm es:=
 (List.perm_ext_iff_of_nodup h.asc.nodup (by
  unfold List.Nodup at hn⊢;rw[List.pairwise_map]at hn
  exact hn.imp fun hxy e=>hxy (by rw[e]))).2 fun e=>⟨fun he=>((h.mem e).1 he).1,fun he=>(h.mem e).2 ⟨he,.inl hd⟩⟩
end
end
section
theorem behind_passed {m:Ent}{h k:Nat}(hm:m.hash<h∨(m.hash=h∧m.key≤k)):(behind h k).passed m:=by
 unfold behind Cur.passed;split
 ·right;simp[lessE];omega
 ·split
  ·right;simp[lessE];omega
  ·left;rfl
section
variable {es : List Ent} {hs : List Nat} {c c' : Cur} {i : Itm}
theorem NextS.keeps (h:NextS es hs c i c'){e:Ent}(he:e.hash<18446744073709551616∧e.key<18446744073709551616)(hp:c.passed e):c'.passed e:=by
 cases h with
 |done=>exact hp
 |yield hd hi m h1 h2 h3 h4 hm=>
  have hp2:lessE e ⟨c.key,0,c.hash⟩=true:=hp.resolve_left (by rw[hd];simp);have hn:=hm.2.1;refine behind_passed ?_;simp[lessE]at hp2 hn;omega
 |skip hd hi h1 h2 h3 h4 hm=>
  have hp2:lessE e ⟨c.key,0,c.hash⟩=true:=hp.resolve_left (by rw[hd];simp);refine behind_passed ?_;simp[lessE]at hp2;omega
theorem NextS.tells (h:NextS es hs c i c'):(i.st=1∧c.done=false∧∃m∈es,i.key=m.key∧i.val=m.val∧¬c.passed m∧c'.passed m)∨((i.st=2∨i.st=3)∧i.key=0∧i.val=0∧(i.st=3↔c'.done=true)∧(c.done=true→i.st=3)):=by
 cases h with
 |done hd=>exact .inr ⟨.inr rfl,rfl,rfl,by simp[hd],fun _=>rfl⟩
 |yield hd hi m h1 h2 h3 h4 hm=>
  refine .inl ⟨rfl,hd,m,(mem_upto.1 hm.1).1,rfl,rfl,fun hp=> ?_,behind_passed (.inr ⟨rfl,Nat.le_refl _⟩)⟩;have:=hp.resolve_left (by rw[hd];simp);rw[hm.2.1]at this;cases this
 |skip hd hi h1 h2 h3 h4 hm=>
  refine .inr ⟨by simp only;split<;>simp,rfl,rfl, ?_,fun h=>by rw[hd]at h;cases h⟩;unfold behind
  by_cases hlt:hi<18446744073709551615<;>simp[hlt]
instance (c:Cur)(e:Ent):Decidable (c.passed e):=by unfold Cur.passed;infer_instance
def pot (es:List Ent)(hs:List Nat)(c:Cur):Nat:=if c.done=true then 0 else(es.filter fun e=> !decide (c.passed e)).length+(hs.filter fun h=>decide (c.hash≤h)).length
theorem pot_le (es:List Ent)(hs:List Nat)(c:Cur):pot es hs c≤es.length+hs.length:=by
 unfold pot;split
 ·exact Nat.zero_le _
 ·exact Nat.add_le_add (List.length_filter_le _ _) (List.length_filter_le _ _)
theorem filter_le {α:Type}{p q:α→Bool}:∀{l:List α},(∀x∈l,p x=true→q x=true)→(l.filter p).length≤(l.filter q).length
 | [],_=>Nat.le_refl _
 |x::l,h=>by
  have ih:=filter_le (l:=l) fun y hy=>h y (by simp[hy]);rw[List.filter_cons,List.filter_cons];have hx:=h x (by simp);split
  ·rename_i hp;rw[if_pos (hx hp)];simp;exact ih
  ·split
   ·simp;omega
   ·exact ih
theorem filter_lt {α:Type}{p q:α→Bool}:∀{l:List α},(∀x∈l,p x=true→q x=true)→(∃x∈l,q x=true∧p x=false)→(l.filter p).length<(l.filter q).length
 | [],_,h=>by obtain⟨_,h,_⟩:=h;cases h
 |x::l,h,hx=>by
  have hle:=filter_le (l:=l) fun y hy=>h y (by simp[hy]);rw[List.filter_cons,List.filter_cons];obtain⟨y,hy,h1,h2⟩:=hx;rcases List.mem_cons.1 hy with e|hy
  ·subst e;rw[if_neg (by rw[h2];simp),if_pos h1];simp;omega
  ·have hlt:=filter_lt (l:=l) (fun z hz=>h z (by simp[hz])) ⟨y,hy,h1,h2⟩;have hq:=h x (by simp);split
   ·rename_i hp;rw[if_pos (hq hp)];simp;exact hlt
   ·split
    ·simp;omega
    ·exact hlt
theorem NextS.pot (h:NextS es hs c i c')(hes:∀e∈es,e.hash<18446744073709551616∧e.key<18446744073709551616)(hne:i.st≠3):pot es hs c'<pot es hs c:=by
 have hk:=fun(e:Ent) (he:e∈es) (hp:c.passed e)=>h.keeps (hes e he) hp;rcases h.tells with⟨_,hd,m,h2,_,_,h3,h4⟩|⟨hst,_,_,h3,h4⟩
 ·have hm1:1≤(es.filter fun e=> !decide (c.passed e)).length:=by
   have:m∈es.filter fun e=> !decide (c.passed e):=List.mem_filter.2 ⟨h2,by simp[h3]⟩;exact List.length_pos_of_mem this
  unfold Go.Proofs.YtflbmgpmnocnbaaGreatDoor.pot;rw[if_neg (show¬c.done=true by rw[hd];simp)];by_cases hd':c'.done=true
  ·rw[if_pos hd'];omega
  ·rw[if_neg hd']
   have e1:=filter_lt (l:=es) (p:=fun e=> !decide (c'.passed e)) (q:=fun e=> !decide (c.passed e)) (fun e he hp=>by
    simp at hp⊢;exact fun hq=>hp (hk e he hq)) ⟨m,h2,by simp[h3],by simp[h4]⟩
   have e2:(hs.filter fun h=>decide (c'.hash≤h)).length≤(hs.filter fun h=>decide (c.hash≤h)).length:=filter_le fun x _ hx=>by
    simp at hx⊢
    cases h with
    |yield hd hi m' g1 g2 g3 g4 hm=>
     have hn:=hm.2.1;simp[lessE]at hn
     have:m'.hash≤(behind m'.hash m'.key).hash:=by
      unfold behind;split
      ·exact Nat.le_refl _
      ·split
       ·exact Nat.le_succ _
       ·rename_i a b;exact absurd (by unfold behind;rw[if_neg a,if_neg b]) hd'
     omega
    |done hd2=>rw[hd]at hd2;cases hd2
    |skip hd2 x g1 g2 g3=>
     have:x≤(behind x 18446744073709551615).hash:=by
      unfold behind;rw[if_neg (by omega)];split
      ·exact Nat.le_succ _
      ·rename_i b;exact absurd (by unfold behind;rw[if_neg (by omega),if_neg b]) hd'
     omega
   omega
 ·have hd:c.done=false:=by
   cases hd:c.done with
   |false=>rfl
   |true=>exact absurd (h4 hd) hne
  have hd':¬c'.done=true:=fun e=>hne (h3.2 e);unfold Go.Proofs.YtflbmgpmnocnbaaGreatDoor.pot;rw[if_neg (show¬c.done=true by rw[hd];simp),if_neg hd']
  have e1:(es.filter fun e=> !decide (c'.passed e)).length≤(es.filter fun e=> !decide (c.passed e)).length:=filter_le fun e he hp=>by
   simp at hp⊢;exact fun hq=>hp (hk e he hq)
  have e2:(hs.filter fun h=>decide (c'.hash≤h)).length<(hs.filter fun h=>decide (c.hash≤h)).length:=by
   cases h with
   |done hd2=>rw[hd]at hd2;cases hd2
   |yield hd2 x m g1 g2 g3 g4 hm=>
    rcases hst with k|k<;>cases k
   |skip hd2 x g1 g2 g3 g4 hm=>
    have hx:x<18446744073709551615:=by
     by_cases hlt:x<18446744073709551615
     ·exact hlt
     ·exact absurd (by unfold behind;rw[if_neg (by omega),if_neg hlt]) hd'
    have hb:(behind x 18446744073709551615).hash=x+1:=by
     unfold behind;rw[if_neg (by omega),if_pos hx]
    rw[hb];exact filter_lt (fun y _ hy=>by simp at hy⊢;omega) ⟨x,g2,by simpa using g1,by simp⟩
  omega
end
end
section
theorem own_holdsK {w:World}{base g n c sz:Nat}{t:TypeId}{xs:List Value}(h:w.ownsRow base t sz (.slice (some ⟨g,0,none⟩) n c) n xs):Holds id w g 0 xs.toArray∧g<w.heap.size∧base≤g:=by
 obtain⟨h1,h2⟩:=h;rcases h2 with⟨h2,_⟩|⟨g',cap,cur,hv,hg,hh,hcap,hmax,hsz,htk⟩
 ·cases h2
 ·injection hv with hv _ _
  injection hv with hv
  injection hv with hv _ _
  subst hv;refine⟨fun j hj=>⟨?_, ?_⟩,(Array.getElem?_eq_some_iff.1 hh).1,hg⟩
  ·have hj':j<xs.length:=by simpa using hj
   have e1:(cur.toList.take (n*sz))[j]?=some xs[j]:=by rw[htk];simp[hj']
   rw[List.getElem?_take_of_lt (by omega)]at e1;simp only[World.cell?,hh]
   have e2:(xs.toArray)[j]! =xs[j]:=by simp[hj']
   rw[e2];simpa using e1
  ·simp[World.frozen?,hh]
theorem own_putK {w:World}{base g n c sz:Nat}{t:TypeId}{xs xs':List Value}(h:w.ownsRow base t sz (.slice (some ⟨g,0,none⟩) n c) n xs)(hl:xs'.length=n*sz)(q:Nat)(os:Array Obj):
  (grow (putRow id (Sort.ahead w q) g 0 xs'.toArray) os).ownsRow base t sz (.slice (some ⟨g,0,none⟩) n c) n xs'∧Mod [g] w (grow (putRow id (Sort.ahead w q) g 0 xs'.toArray) os):=by
 obtain⟨hH,hlt,hbg⟩:=own_holdsK h;obtain⟨h1,h2⟩:=h;rcases h2 with⟨h2,_⟩|⟨g',cap,cur,hv,hg,hh,hcap,hmax,hsz,htk⟩
 ·cases h2
 ·injection hv with hv _ hc
  injection hv with hv
  injection hv with hv _ _
  subst hv hc
  have hcell:(grow (putRow id (Sort.ahead w q) g 0 xs'.toArray) os).heap[g]?=some (.cells (putCells id 0 xs'.toArray cur) t (0,0)):=by
   rw[Go.Sort.heap_grow_old _ _ (by simpa using hlt)];show((w.heap).modify g _)[g]?=_;rw[Array.getElem?_modify,if_pos rfl,hh];rfl
  have hmul:n*sz≤c*sz:=Nat.mul_le_mul_right _ hcap;refine⟨⟨hl,.inr ⟨g,c,_,rfl,hg,hcell,hcap,hmax,by simp[putCells,hsz], ?_⟩⟩,rfl,rfl,rfl,by simp,fun k hk hne=> ?_⟩
  ·apply List.ext_getElem?;intro i;by_cases hi:i<n*sz
   ·rw[List.getElem?_take_of_lt (by omega)]
    have hic:i<cur.size:=by omega
    have hix:i<xs'.length:=by omega
    simp[putCells,hic,hix]
   ·rw[List.getElem?_eq_none (by simp;omega),List.getElem?_eq_none (by omega)]
  ·rw[Go.Sort.heap_grow_old _ _ (by simp;omega)];show((w.heap).modify g _)[k]?=_;rw[Array.getElem?_modify,if_neg (fun e=>hne (by simp[e]))]
def pC (p:Nat×Nat):List Value:=[.int .u64 (p.1:Int),.int .u64 (p.2:Int)]
theorem pC_at {p:Nat×Nat}{q:Nat}:∀{l:List (Nat×Nat)} {i:Nat},l[i]?=some p→q<2→(l.flatMap pC)[i*2+q]?=some ((pC p)[q]!)
 | [],_,h,_=>by simp at h
 |x::l,0,h,hq=>by
  obtain rfl:=Option.some.inj h;rw[List.flatMap_cons,List.getElem?_append_left (by simp[pC];omega)]
  have:q=0∨q=1:=by omega
  rcases this with rfl|rfl<;>rfl
 |x::l,i+1,h,hq=>by
  rw[List.flatMap_cons,List.getElem?_append_right (by simp[pC];omega)];have:=pC_at (l:=l) (i:=i) h hq;rw[show(i+1)*2+q-(pC x).length=i*2+q by simp[pC];omega];exact this
theorem pC_length (l:List (Nat×Nat)):(l.flatMap pC).length=l.length*2:=by
 induction l with
 |nil=>rfl
 |cons x l ih=>rw[List.flatMap_cons,List.length_append,ih,List.length_cons];simp[pC];omega
theorem flat_pC (d:Array (Nat×Nat)):flatK pC 2 d=(d.toList.flatMap pC).toArray:=by
 apply Array.ext_getElem?;intro t;by_cases ht:t<d.size*2
 ·have h1:t/2<d.size:=by omega
  have h2:d.toList[t/2]?=some d[t/2]:=by simp[h1]
  have h3:=pC_at (q:=t % 2) h2 (by omega);rw[show t/2*2+t % 2=t by omega]at h3
  have h6:(d.toList.flatMap pC).toArray[t]?=(d.toList.flatMap pC)[t]?:=by simp
  rw[h6,h3]
  have h4:t<(flatK pC 2 d).size:=by simpa using ht
  rw[Array.getElem?_eq_getElem h4];have h5:=get_flatK pC 2 d t ht;rw[getElem!_pos (flatK pC 2 d) t h4]at h5;rw[h5,getElem!_pos d (t/2) h1]
 ·rw[Array.getElem?_eq_none (by simp;omega),List.getElem?_toArray,List.getElem?_eq_none (by rw[pC_length];simp;omega)]
def cmpP (x y:Nat×Nat):Int:=if x.1<y.1 then-1 else if y.1<x.1 then 1 else 0
theorem ltP (x y:Nat×Nat):ltOf cmpP x y=decide (x.1<y.1):=by
 unfold ltOf cmpP;by_cases h1:x.1<y.1
 ·simp[h1]
 ·by_cases h2:y.1<x.1<;>simp[h1,h2]
theorem swoP:SWO (ltOf cmpP):=⟨fun x=>by rw[ltP];simp,fun x y z h1 h2=>by rw[ltP]at*;simp at*;omega,fun x y z h1 h2=>by rw[ltP]at*;simp at*;omega⟩
structure OwnAp (base:Nat)(w:World)(t:TypeId)(sz:Nat)(v:Value)(n:Nat)(xs:List Value)(F:List Nat):Prop where
 row:w.ownsRow base t sz v n xs
 gs:∀g,v.ownBlock=some g→g∉F
section
variable {base n sz : Nat} {w w' : World} {t : TypeId} {v v' : Value} {xs ys : List Value} {F F' S : List Nat}
theorem own_farP (h:w.ownsRow base t sz v n xs)(hm:Mod S w w')(hS:∀k,v.ownBlock=some k→k∉S):w'.ownsRow base t sz v n xs:=by
 refine⟨h.1, ?_⟩;rcases h.2 with k|⟨g,cap,cur,h1,h2,h3,h4⟩
 ·exact .inl k
 ·refine .inr ⟨g,cap,cur,h1,h2, ?_,h4⟩;rw[hm.block g (Array.getElem?_eq_some_iff.1 h3).1 (hS g (by rw[h1];rfl))];exact h3
theorem OwnAp.nil (w:World)(base:Nat)(t:TypeId)(sz:Nat)(F:List Nat):OwnAp base w t sz (.slice none 0 0) 0 [] F:=⟨World.ownsRow_nil _ _ _ _,fun g hg=>by cases hg⟩
theorem OwnAp.to (h:OwnAp base w t sz v n xs F)(h2:∀q∈F',q∈F∨w.heap.size≤q)(hm:Mod F w w'):OwnAp base w' t sz v n xs F':=
 ⟨own_farP h.row hm h.gs,fun g hg hq=>(h2 g hq).elim (h.gs g hg) (fun k=>by have:=(h.row.lt g hg).2;omega)⟩
theorem OwnAp.below (h:OwnAp base w t sz v n xs F)(hb:Below w.heap.size w w'):OwnAp base w' t sz v n xs F:=⟨own_farP h.row (Mod.of_below hb []) (by simp),h.gs⟩
theorem OwnAp.push (h:OwnAp base w t sz v n xs F)(hg:Grew w base v w' v')(ho:w'.ownsRow base t sz v' (n+1) ys)(hF:∀q∈F,q<w.heap.size):OwnAp base w' t sz v' (n+1) ys F:=by
 refine⟨ho,fun g hgg=> ?_⟩;rcases hg.at_ with h1|⟨g2,h1,h2⟩
 ·rw[h1]at hgg;exact h.gs g hgg
 ·rw[h1]at hgg;cases hgg;exact fun hq=>by have:=hF g hq;omega
theorem grow_modP (h:Grew w base v w' v'):Mod v.ownBlock.toList w w':=⟨h.by_.os,h.by_.tape,h.by_.output,h.by_.size,fun k hk hn=>h.by_.block k hk (fun e=>hn (by simp[e]))⟩
end
end
end Go.Proofs.YtflbmgpmnocnbaaGreatDoor
