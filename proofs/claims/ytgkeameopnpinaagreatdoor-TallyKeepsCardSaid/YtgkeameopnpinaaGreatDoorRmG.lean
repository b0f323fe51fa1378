/- amblerlaw21.walk: going over a core comes to all its entries, in order. -/
import Derived.Test.YtgkeameopnpinaaGreatDoorRefG
import Derived.Test.YtgkeameopnpinaaGreatDoorLaneP
import Derived.Test.YtgkeameopnpinaaGreatDoorCoDA
import Derived.Test.YtgkeameopnpinaaGreatDoorRmA
import Derived.Test.YtgkeameopnpinaaGreatDoorMpA
import Derived.Test.YtgkeameopnpinaaGreatDoorSqM
import Derived.Test.YtgkeameopnpinaaGreatDoorCoO
namespace Go.Proofs.YtgkeameopnpinaaGreatDoor
set_option maxRecDepth 100000
set_option maxHeartbeats 4000000
open Go.RowKit bY
section
variable {l : List av} {m : av} {b base : Nat} {w : World} {v : Value}
def Asc (l:List av):Prop:=l.Pairwise fun x y=>bB x y=true
theorem Asc.nodup (h:Asc l):l.Nodup:=h.imp fun hxy e=>by rw[e,yt]at hxy;cases hxy
theorem XF (h:Asc l)(hm:∀e∈l,bB e m=true):Asc (l++[m]):=List.pairwise_append.2 ⟨h,List.pairwise_singleton _ _,fun x hx y hy=>by rw[List.mem_singleton.1 hy];exact hm x hx⟩
def below_ (hs:List Nat)(b:Nat):Nat:=(hs.filter fun h=>decide (h<b)).length
theorem uX (hs:List Nat){a:Nat}(h:a≤b):below_ hs a≤below_ hs b:=by
 unfold below_
 induction hs with
 |nil=>simp
 |cons x l ih=>
  simp only[List.filter_cons];by_cases h1:x<a
  ·rw[if_pos (by simpa using h1),if_pos (by simp;omega)];simp only[List.length_cons];omega
  ·rw[if_neg (by simpa using h1)]
   split<;>(try simp only[List.length_cons])<;>omega
theorem Ac {hs:List Nat}{a x:Nat}(hx:x∈hs)(h1:a≤x)(h2:x<b):below_ hs a+1≤below_ hs b:=by
 obtain⟨s,t,rfl⟩:=List.append_of_mem hx;have g1:=uX s (Nat.le_trans h1 (Nat.le_of_lt h2));have g2:=uX t (Nat.le_trans h1 (Nat.le_of_lt h2));unfold below_ at g1 g2⊢;rw[List.filter_append,List.filter_append,List.filter_cons,List.filter_cons,if_neg (by simp;omega),if_pos (by simp;omega)];simp only[List.length_append,List.length_cons];omega
theorem below_le (hs:List Nat)(b:Nat):below_ hs b≤hs.length:=List.length_filter_le _ _
structure kT (es:List av)(hs:List Nat)(n:Nat)(out:List av)(key hash:Nat):Prop where
 qH:Asc out
 mem:∀e,e∈out↔e∈es∧bB e ⟨key,0,hash⟩=true
 cnt:n≤out.length+below_ hs hash
section
variable {es out : List av} {hs : List Nat} {n key hash hi : Nat}
theorem kT.start (es:List av)(hs:List Nat):kT es hs 0 [] 0 0:=⟨.nil,fun e=>by simp[bB],Nat.zero_le _⟩
theorem Cv {l':List av}(hn:l.Nodup)(hs:∀x∈l,x∈l'):l.length≤l'.length:=by
 induction l generalizing l' with
 |nil=>exact Nat.zero_le _
 |cons x l ih=>
  rw[List.nodup_cons]at hn;obtain⟨s,t,rfl⟩:=List.append_of_mem (hs x (by simp))
  have h1:=ih (l':=s++t) hn.2 (fun y hy=>by
   have:=hs y (by simp[hy]);simp only[List.mem_append,List.mem_cons]at this⊢;rcases this with h|h|h
   ·exact .inl h
   ·rw[h]at hy;exact absurd hy hn.1
   ·exact .inr h)
  simp only[List.length_append,List.length_cons]at h1⊢;omega
theorem kT.len (h:kT es hs n out key hash):out.length≤es.length:=Cv h.qH.nodup (fun e he=>((h.mem e).1 he).1)
theorem kT.few (h:kT es hs n out key hash)(h1:es.length≤192)(h2:hs.length≤32):n≤224:=by
 have:=h.cnt;have:=h.len;have:=below_le hs hash;omega
theorem kT.some_ (h:kT es hs n out key hash)(hn:(es.map av.key).Nodup)(hm:fK ⟨key,0,hash⟩ (upto es hi) (some m)):kT es hs (n+1) (out++[m]) (m.key+1) m.hash∧(∀e∈out,bB e m=true)∧m.hash≤hi∧m∈es:=by
 obtain⟨m1,m2⟩:=nY.1 hm.1
 have hlt:∀e∈out,bB e m=true:=fun e he=>by
  have h1:=((h.mem e).1 he).2;have h2:=hm.2.1;simp[bB]at h1 h2⊢;omega
 have hh:=JE hm.2.1;refine⟨⟨XF h.qH hlt,fun e=>⟨fun he=> ?_,fun he=> ?_⟩, ?_⟩,hlt,m2,m1⟩
 ·rcases List.mem_append.1 he with h1|h1
  ·refine⟨((h.mem e).1 h1).1, ?_⟩;have:=hlt e h1;simp[bB]at this⊢;omega
  ·rw[List.mem_singleton.1 h1];exact⟨m1,by simp[bB]⟩
 ·rw[List.mem_append,List.mem_singleton]
  cases hl:bB e ⟨key,0,hash⟩with
  |true=>exact .inl ((h.mem e).2 ⟨he.1,hl⟩)
  |false=>
   right;have h1:=he.2;have h2:=hm.2.2 e (nY.2 ⟨he.1,by simp[bB]at h1;omega⟩) hl
   have hk:e.key=m.key:=by simp[bB]at h1 h2;omega
   have e1:=fP hn he.1;have e2:=fP hn m1;rw[hk,e2]at e1;exact(Option.some.inj e1).symm
 ·have:=h.cnt;have:=uX hs hh;simp only[List.length_append,List.length_cons,List.length_nil];omega
theorem kT.none_ (h:kT es hs n out key hash)(hm:fK ⟨key,0,hash⟩ (upto es hi) none)(h1:hash≤hi)(h2:hi∈hs):kT es hs (n+1) out 0 (hi+1):=by
 refine⟨h.qH,fun e=>⟨fun he=> ?_,fun he=> ?_⟩, ?_⟩
 ·have:=(h.mem e).1 he;refine⟨this.1, ?_⟩;have h3:=this.2;simp[bB]at h3⊢;omega
 ·have h3:=he.2;exact(h.mem e).2 ⟨he.1,hm e (nY.2 ⟨he.1,by simp[bB]at h3;omega⟩)⟩
 ·have:=h.cnt;have:=Ac (b:=hi+1) h2 h1 (by omega);omega
end
end
section
structure Cw where
 st:Nat
 key:Nat
 val:Nat
def Cw.zero:Cw:=⟨0,0,0⟩
def gq.passed (c:gq)(e:av):Prop:=c.done=true∨bB e ⟨c.key,0,c.hash⟩=true
inductive jH (es:List av)(hs:List Nat)(c:gq):Cw→gq→Prop
 |done (h:c.done=true):jH es hs c ⟨3,0,0⟩ c
 |yield (h:c.done=false) (hi:Nat) (m:av) (h1:c.hash≤hi) (h2:hi∈hs) (h3:hi<18446744073709551616) (h4:∀x∈hs,c.hash≤x→hi≤x) (hm:fK ⟨c.key,0,c.hash⟩ (upto es hi) (some m)):jH es hs c ⟨1,m.key,m.val⟩ (behind m.hash m.key)
 |skip (h:c.done=false) (hi:Nat) (h1:c.hash≤hi) (h2:hi∈hs) (h3:hi<18446744073709551616) (h4:∀x∈hs,c.hash≤x→hi≤x) (hm:fK ⟨c.key,0,c.hash⟩ (upto es hi) none):jH es hs c ⟨if hi<18446744073709551615 then 2 else 3,0,0⟩ (behind hi 18446744073709551615)
theorem JJ {h k:Nat}(h1:h<18446744073709551616):(behind h k).ok:=by
 unfold behind gq.ok;split
 ·exact⟨h1,by simp only;omega⟩
 ·split
  ·exact⟨by simp only;omega,by simp⟩
  ·simp
theorem Ru {es:List av}(hn:(es.map av.key).Nodup):∀e∈es,∀e'∈es,e.key=e'.key→e=e':=fun e he e' he' hk=>by
 have e1:=fP hn he;have e2:=fP hn he';rw[hk,e2]at e1;exact(Option.some.inj e1).symm
section
variable {es out : List av} {hs : List Nat} {n : Nat} {c c' c'' : gq} {i i' : Cw}
structure Way (es:List av)(hs:List Nat)(n:Nat)(out:List av)(c:gq):Prop where
 qH:Asc out
 mem:∀e,e∈out↔e∈es∧c.passed e
 cnt:c.done=false→n≤out.length+below_ hs c.hash
 ok:c.ok
theorem Way.start (es:List av)(hs:List Nat):Way es hs 0 [] ⟨0,0,false⟩:=⟨.nil,fun e=>by simp[gq.passed,bB],fun _=>Nat.zero_le _,by simp[gq.ok]⟩
theorem uG {es:List av}{hash key:Nat}(h1:hash<18446744073709551616)(h2:key<18446744073709551616)(he:∀e∈es,e.hash<18446744073709551616∧e.key<18446744073709551616){e:av}(h:e∈es):(behind hash key).passed e↔bB e ⟨key+1,0,hash⟩=true:=by
 have:=he e h;unfold behind gq.passed;split
 ·simp[bB]
 ·split
  ·simp[bB];omega
  ·simp[bB];omega
theorem Way.abD (h:Way es hs n out c)(hd:c.done=false):kT es hs n out c.key c.hash:=⟨h.qH,fun e=>by rw[h.mem e];unfold gq.passed;rw[hd];simp,h.cnt hd⟩
theorem XG {hash key:Nat}(h:kT es hs n out (key+1) hash)(h1:hash<18446744073709551616)(h2:key<18446744073709551616)(he:∀e∈es,e.hash<18446744073709551616∧e.key<18446744073709551616):Way es hs n out (behind hash key):=by
 refine⟨h.qH,fun e=>⟨fun hh=> ?_,fun hh=> ?_⟩,fun hd=> ?_,JJ h1⟩
 ·obtain⟨g1,g2⟩:=(h.mem e).1 hh;exact⟨g1,(uG h1 h2 he g1).2 g2⟩
 ·exact(h.mem e).2 ⟨hh.1,(uG h1 h2 he hh.1).1 hh.2⟩
 ·have h3:=h.cnt
  have:hash≤(behind hash key).hash:=by
   unfold behind at hd⊢;split
   ·exact Nat.le_refl _
   ·split
    ·exact Nat.le_succ _
    ·rename_i a b;rw[if_neg a,if_neg b]at hd;cases hd
  have:=uX hs this;omega
theorem Way.next (h:Way es hs n out c)(hn:(es.map av.key).Nodup)(he:∀e∈es,e.hash<18446744073709551616∧e.key<18446744073709551616)(hN:jH es hs c i c'):
  ∃out',Way es hs (n+1) out' c'∧((i.st=1∧c.done=false∧∃m∈es,out'=out++[m]∧(∀e∈out,bB e m=true)∧¬c.passed m∧i.key=m.key∧i.val=m.val∧c'=behind m.hash m.key)∨(i.st≠1∧out'=out∧i.key=0∧i.val=0∧(i.st=2∨i.st=3)∧(i.st=3↔c'.done=true))):=by
 cases hN with
 |done hd=>exact⟨out,⟨h.qH,h.mem,fun hh=>(by rw[hd]at hh;cases hh),h.ok⟩,.inr ⟨by simp,rfl,rfl,rfl,.inr rfl,by simp[hd]⟩⟩
 |yield hd hi m h1 h2 h3 h4 hm=>
  obtain⟨w1,w2,w3,w4⟩:=(h.abD hd).some_ hn hm;have hb:=he m w4;exact⟨out++[m],XG w1 hb.1 hb.2 he,.inl ⟨rfl,hd,m,w4,rfl,w2,fun hp=>(by rcases hp with hp|hp;rw[hd]at hp;cases hp;have:=hm.2.1;rw[hp]at this;cases this),rfl,rfl,rfl⟩⟩
 |skip hd hi h1 h2 h3 h4 hm=>
  have hcn:=h.cnt hd
  have YW:∀e∈es,((behind hi 18446744073709551615).passed e↔c.passed e):=fun e hh=>by
   rw[uG h3 (by omega) he hh];have hb:=he e hh;unfold gq.passed;rw[hd];constructor
   ·intro hl;right;exact hm e (nY.2 ⟨hh,by simp[bB]at hl;omega⟩)
   ·rintro(hl|hl)
    ·cases hl
    ·simp[bB]at hl⊢;omega
  refine⟨out,⟨h.qH,fun e=>⟨fun hh=> ?_,fun hh=> ?_⟩,fun hx=> ?_,JJ h3⟩,.inr ⟨?_,rfl,rfl,rfl, ?_, ?_⟩⟩
  ·obtain⟨g1,g2⟩:=(h.mem e).1 hh;exact⟨g1,(YW e g1).2 g2⟩
  ·exact(h.mem e).2 ⟨hh.1,(YW e hh.1).1 hh.2⟩
  ·have hx':hi<18446744073709551615:=by
    unfold behind at hx;rw[if_neg (by omega)]at hx;by_cases hlt:hi<18446744073709551615
    ·exact hlt
    ·rw[if_neg hlt]at hx;cases hx
   have hb:(behind hi 18446744073709551615).hash=hi+1:=by
    unfold behind;rw[if_neg (by omega),if_pos hx']
   rw[hb];have:=Ac (b:=hi+1) h2 h1 (by omega);omega
  ·simp only;split<;>omega
  ·simp only;split<;>simp
  ·unfold behind
   by_cases hlt:hi<18446744073709551615<;>simp[hlt]
theorem Way.few (h:Way es hs n out c)(hd:c.done=false)(hN:jH es hs c i c'):n<es.length+hs.length:=by
 have h1:=h.cnt hd;have h2:out.length≤es.length:=Cv h.qH.nodup (fun e he=>((h.mem e).1 he).1)
 have h3:below_ hs c.hash<hs.length:=by
  have hx:∃hi,c.hash≤hi∧hi∈hs:=by
   cases hN with
   |done h=>rw[hd]at h;cases h
   |yield h hi m h1 h2=>exact⟨hi,h1,h2⟩
   |skip h hi h1 h2=>exact⟨hi,h1,h2⟩
  obtain⟨hi,g1,g2⟩:=hx;have:=Ac (b:=hi+1) g2 g1 (by omega);have:=below_le hs (hi+1);omega
 omega
theorem Way.adq (h:Way es hs n out c)(hn:(es.map av.key).Nodup)(hd:c.done=true):out.Perm es:=
 (List.perm_ext_iff_of_nodup h.qH.nodup (by
  unfold List.Nodup at hn⊢;rw[List.pairwise_map]at hn
  exact hn.imp fun hxy e=>hxy (by rw[e]))).2 fun e=>⟨fun he=>((h.mem e).1 he).1,fun he=>(h.mem e).2 ⟨he,.inl hd⟩⟩
end
end
section
def xM (i:Cw):Value:= .agg #[nI i.st,nU i.key,nU i.val]
def jY (its:List It)(id:Nat)(c:gq):List It:=its.map fun i=>if i.id=id then{i with c:=c} else i
theorem Ol {its:List It}(hn:(its.map It.cb).Nodup){i j:It}(hi:i∈its)(hj:j∈its)(h:i.cb=j.cb):i=j:=by
 induction its with
 |nil=>cases hi
 |cons x l ih=>
  rw[List.map_cons,List.nodup_cons]at hn;rcases List.mem_cons.1 hi with h1|h1
  ·rcases List.mem_cons.1 hj with h2|h2
   ·rw[h1,h2]
   ·exact absurd (show x.cb∈l.map It.cb from by rw[←h1,h];exact List.mem_map_of_mem h2) hn.1
  ·rcases List.mem_cons.1 hj with h2|h2
   ·exact absurd (show x.cb∈l.map It.cb from by rw[←h2,←h];exact List.mem_map_of_mem h1) hn.1
   ·exact ih hn.2 h1 h2
section
variable {w w' : World} {ib mb most given id cb : Nat} {its : List It} {c c' : gq}
theorem Nn:(jY its id c).map It.id=its.map It.id:=by
 unfold jY;rw[List.map_map];apply List.map_congr_left;intro i _;simp only[Function.comp_apply]
 split<;>rfl
theorem XH:(jY its id c).map It.cb=its.map It.cb:=by
 unfold jY;rw[List.map_map];apply List.map_congr_left;intro i _;simp only[Function.comp_apply]
 split<;>rfl
theorem uY:bN ib mb (jY its id c)=bN ib mb its:=by unfold bN;rw[XH]
theorem UO:gZ (jY its id c)=gZ its:=by
 unfold gZ jY;rw[List.map_map];apply List.map_congr_left;intro i _;simp only[Function.comp_apply]
 split<;>rfl
theorem gG.setCur (h:gG w ib mb most given its)(hi:⟨id,cb,c⟩∈its)(hc:eX w' cb c'){S:List Nat}(hm:Mod S w w')(hS:∀q∈S,q=cb∨q∉bN ib mb its):gG w' ib mb most given (jY its id c'):=by
 have hnf:=h.nf;unfold bN at hnf;rw[List.nodup_cons,List.nodup_cons]at hnf;have abE:cb∈its.map It.cb:=List.mem_map.2 ⟨_,hi,rfl⟩;have h1:ib∉S:=fun hh=>(hS _ hh).elim (fun k=>hnf.1 (by rw[k];exact List.mem_cons_of_mem _ abE)) (fun k=>k (by simp[bN]));have h2:mb∉S:=fun hh=>(hS _ hh).elim (fun k=>hnf.2.1 (by rw[k];exact abE)) (fun k=>k (by simp[bN]));refine⟨h.blk.mod hm h1,by rw[UO];exact h.map.mod hm h2,fun i hi'=> ?_,fun i hi'=> ?_,by rw[Nn];exact h.nd,by rw[uY];exact h.nf,h.few.1,by unfold jY;rw[List.length_map];exact h.few.2⟩
 ·unfold jY at hi';obtain⟨j,hj,rfl⟩:=List.mem_map.1 hi';by_cases hid:j.id=id
  ·rw[if_pos hid];have:=wM h.nd hj hi hid;rw[this];exact hc
  ·rw[if_neg hid];refine(h.cur j hj).mod hm (fun hh=>hid ?_);have hcb:j.cb=cb:=(hS _ hh).elim (fun k=>k) (fun k=>absurd (by unfold bN;simp only[List.mem_cons];exact .inr (.inr (List.mem_map_of_mem hj))) k);have hn:(its.map It.cb).Nodup:=hnf.2.2;exact congrArg It.id (Ol hn hj hi hcb)
 ·have:i.id∈its.map It.id:=by rw[←Nn (id:=id) (c:=c')];exact List.mem_map_of_mem hi'
  obtain⟨j,hj,hji⟩:=List.mem_map.1 this;rw[←hji];exact h.ids j hj
end
def rJ (W0:World)(E:Nat→Addr)(H:Nat→Nat)(Kk M I b:Nat)(G0:List Nat)(w0:World)(C:fQ)(GC:List Nat)(mb gv:Nat)(a:Pool)(ids:List Nat)(its:List It)(id cb:Nat)(c:gq)(V:World)(it:Cw)(w':World):Prop:=
 ∃(c':gq) (cc:aZ) (fF:List Nat),jH a.ents (jF a) c it c'∧M5 cc∧fT W0 E H Kk M I b G0 w0 C fF mb gv w' a ids (jY its id c')∧jo W0 E H Kk M C.cb fF w' a ids cc∧(∀q∈fF,q∈GC∨V.heap.size≤q)∧Mod (cb::GC) V w'
section
variable {W0 : World} {E : Nat → Addr} {H : Nat → Nat} {Kk M I b : Nat} {G0 : List Nat} {w0 w : World} {C : fQ} {GC : List Nat} {mb gv : Nat} {a : Pool} {ids : List Nat} {its : List It} {id cb : Nat} {c : gq}
theorem rJ.mod {T:List Nat}{V w1 w2:World}{it:Cw}(h:rJ W0 E H Kk M I b G0 w0 C GC mb gv a ids its id cb c V it w1)(hm:Mod T w1 w2)(hT:∀q∈T,q∉dQ b C GC mb its∧w0.heap.size≤q∧q<V.heap.size):
  ∃(c':gq) (cc:aZ) (fF:List Nat),jH a.ents (jF a) c it c'∧M5 cc∧fT W0 E H Kk M I b G0 w0 C fF mb gv w2 a ids (jY its id c')∧jo W0 E H Kk M C.cb fF w2 a ids cc∧(∀q∈fF,q∈GC∨V.heap.size≤q)∧Mod (cb::(GC++T)) V w2:=by
 obtain⟨c',cc,fF,h1,h2,h3,h4,h5,h6⟩:=h
 have h7:∀q∈T,q∉fF:=fun q hq hg=>by
  rcases h5 q hg with k|k
  ·exact(hT q hq).1 (aH.2 (.inr (.inr k)))
  ·have:=(hT q hq).2.2;omega
 refine⟨c',cc,fF,h1,h2,h3.zW hm (fun q hq=>⟨fun hg=> ?_,(hT q hq).2.1⟩),h4.mod hm (fun q hq=>⟨h7 q hq,Nat.le_trans h3.oU (hT q hq).2.1⟩),h5,(h6.more (fun q hq=>by simp at hq⊢;rcases hq with k|k;exact .inl k;exact .inr (.inl k))).then (hm.more (fun q hq=>by simp;exact .inr (.inr hq)))⟩;rcases aH.1 hg with k|k|k
 ·exact(hT q hq).1 (aH.2 (.inl k))
 ·rw[uY]at k;exact(hT q hq).1 (aH.2 (.inr (.inl k)))
 ·exact h7 q hq k
theorem rJ.of {S:List Nat}{V V1 V2:World}{c':gq}{cc:aZ}{fF:List Nat}{it:Cw}(h3:fT W0 E H Kk M I b G0 w0 C fF mb gv V1 a ids its)(h4:jo W0 E H Kk M C.cb fF V1 a ids cc)(h5:∀q∈fF,q∈GC∨V.heap.size≤q)(h6:Mod GC V V1)(hi:⟨id,cb,c⟩∈its)(h1:jH a.ents (jF a) c it c')(h2:M5 cc)(hc:eX V2 cb c')(hm:Mod S V1 V2)(hS:∀q∈S,q=cb∨(q∉dQ b C fF mb its∧w0.heap.size≤q∧V.heap.size≤q)):rJ W0 E H Kk M I b G0 w0 C GC mb gv a ids its id cb c V it V2:=by
 have hcb:cb∈bN C.ib mb its:=by
  unfold bN;simp only[List.mem_cons,List.mem_map];exact .inr (.inr ⟨_,hi,rfl⟩)
 refine⟨c',cc,fF,h1,h2,h3.Xu (h3.nE.setCur hi hc hm (fun q hq=>(hS q hq).elim .inl (fun k=> .inr (fun g=>k.1 (aH.2 (.inr (.inl g))))))) hm (fun q hq=>(hS q hq).elim (fun k=> .inl (k▸hcb)) (fun k=> .inr ⟨k.1,k.2.1⟩)) (fun q hq=>by rw[uY]at hq;exact .inl hq),h4.mod hm (fun q hq=> ?_),h5,h6.trans hm (fun q hq _=>List.mem_cons_of_mem _ hq) (fun q hq hl=> ?_)⟩
 ·rcases hS q hq with k|k
  ·rw[k];exact⟨h3.apart.2.2 _ hcb,h3.b0.2 _ hcb⟩
  ·exact⟨fun g=>k.1 (aH.2 (.inr (.inr g))),Nat.le_trans h3.oU k.2.1⟩
 ·rcases hS q hq with k|k
  ·rw[k];simp
  ·omega
theorem fT.abF (h:fT W0 E H Kk M I b G0 w0 C GC mb gv w a ids its):∀e∈a.ents,e.hash<18446744073709551616∧e.key<18446744073709551616:=fun e he=>by
 obtain⟨i,N,h1,h2⟩:=lg.1 he;have h3:=((h.core.facts.2.2.2.2.2.1 i N h1).hash e h2).1;exact⟨h3.h64,h3.k64⟩
end
theorem Z0 {W0:World}{E:Nat→Addr}{H:Nat→Nat}{Kk M I b:Nat}{G0:List Nat}{w0 w:World}{C:fQ}{GC:List Nat}{mb gv:Nat}{a:Pool}{ids:List Nat}{its:List It}{id cb:Nat}{c:gq}(hS:fT W0 E H Kk M I b G0 w0 C GC mb gv w a ids its)(hi:⟨id,cb,c⟩∈its)(hd:c.done=false)(hok:c.ok):Calls Tryz.prog 67 #[pQ b,pQ cb] w fun y w'=>∃it,y= .returned (.tuple #[xM it,.nilIface])∧rJ W0 E H Kk M I b G0 w0 C GC mb gv a ids its id cb c w it w':=by
 have hst:=hS;have hB:=(Below.refl w.heap.size w).alloc (Nat.le_refl _) (.cells #[.int .i64 0,.int .u64 0,.int .u64 0] 95);have hR:=aj.new w 95 #[.int .i64 0,.int .u64 0,.int .u64 0];obtain⟨W,hW⟩:∃W,W=w.alloc (.cells #[.int .i64 0,.int .u64 0,.int .u64 0] 95):=⟨_,rfl⟩;rw[←hW]at hB hR;have DW:=(hS.nE.cur _ hi).mod (Mod.of_below hB []) (by simp);have HS:=qd (hS.below hB);have HR:=qd hR;have HB:=qd hB;have HW:=qd hW;have HI:=qd hi;have HCu:=qd DW;have bM:=qd hS.abF;have HD:=qd hd;have IY:=qd hok;have YX:=qd (show w.heap.size∉dQ b C GC mb its from fun hg=>by have:=(hS.fA _ hg).1;omega);have HW0:=qd (show w0.heap.size≤w.heap.size from hS.mod.size);have LD:=qd (show w.heap.size∉GC from fun hg=>by have:=(hS.fA _ (aH.2 (.inr (.inr hg)))).1;omega);have PD:=qd (show w.heap.size≠cb from fun e=>by have:cb<w.heap.size:=(hS.nE.cur _ hi).lt;omega);clear hst hB hR hW hS DW hi hd hok;go_in;go_upto_region 1 with fail;rw[←HW.out];go_wp2_with fail;refine(Uu HCu.out).mono ?_;rintro y W1 ⟨rfl,hb⟩;replace HS:=qd (HS.out.below hb);replace HR:=qB hb HR;replace HB:=qd (bR hb HB.out);clear hb HCu;have hbk:=HS.out.blk.blk;unfold fQ.cells at hbk;have c3:=hbk.cell 3;simp only[gl]at c3;have hle:=Ut HS.out.core c.key c.hash IY.out.1;unfold aY at hle;have qZ:=qd hle;clear hbk hle;go_wp2_with fail;refine qZ.out.mono ?_;rintro y W2 ⟨o,hg,cc,fF,rfl,UQ,hcc,hct,hsu,hmo⟩;have hs2:=HS.out.YR hct.at_ hsu hmo
 have HRn:=qd (show w.heap.size∉fF from fun hg=>(hsu _ hg).elim LD.out (fun k=>by have:=HR.out.lt;omega));have HQ:=qd (show Mod GC w W2 from(Mod.of_below HB.out GC).then hmo);replace HR:=qd (HR.out.mod hmo LD.out);replace HS:=qd hs2;have rY:=qd hct;have xO:=qd UQ;have HCc:=qd hcc;have Co:=qd (show∀q∈fF,q∈GC∨w.heap.size≤q from fun q hq=>(hsu q hq).elim .inl (fun k=> .inr (by have:=HB.out.size;omega)));have HCb:=qd (show cb<W2.heap.size from(hs2.nE.cur _ HI.out).lt);clear hs2 hct UQ hcc hsu hmo qZ c3;obtain⟨e0,he0⟩:∃e0:av,e0=o.getD ⟨0,0,0⟩:=⟨_,rfl⟩;rw[←he0];have MR:=qd he0;clear he0;unfold aO;go_upto_region 3 with fail;refine dB 159 #[nU e0.key,nU e0.val,nU e0.hash] ?_;rintro W3 ⟨hX,hb⟩;replace HS:=qd (HS.out.below hb);replace rY:=qd (rY.out.below hb);replace HR:=qB hb HR;replace HQ:=qd (HQ.out.then (Mod.of_below hb GC));have HX:=qd hX;obtain⟨xb,hxb⟩:∃xb,xb=W2.heap.size:=⟨_,rfl⟩;rw[←hxb]at HX⊢
 have hxr:xb≠cb:=fun e=>by have:=HCb.out;omega
 have HXc:=qd hxr;clear hX hb hxb hxr
 have Np:=qd (show w.heap.size∉dQ b C fF mb its from fun hg=>by
  rcases aH.1 hg with k|k|k
  ·exact YX.out (aH.2 (.inl k))
  ·exact YX.out (aH.2 (.inr (.inl k)))
  ·exact HRn.out k)
 have hxc:xb∉[cb]:=fun hh=>HXc.out (List.mem_singleton.1 hh);have hrc:w.heap.size∉[cb]:=fun hh=>PD.out (List.mem_singleton.1 hh);have HXm:=qd hxc;have OO:=qd hrc;clear hxc hrc
 cases o with
 |some m=>
  obtain rfl:e0=m:=MR.out;have hmm:=xO.out.2.2.2.2.1;have Hl:=qd (bM.out e0 (nY.1 hmm).1);have fD:=qd xO.out.2.2.2.2.2.1;have PE:=qd (fun V (hV:eX V cb c)=>Ob hV HD.out e0 Hl.out.2 Hl.out.1 fD.out);unfold aO at PE;have jK:=qd (jH.yield HD.out hg e0 xO.out.1 xO.out.2.2.1 xO.out.2.1 xO.out.2.2.2.1 xO.out.2.2.2.2);clear hmm;go_upto_region 4 with fail;have PG:=HX.out.cell 0;have PI:=HX.out.cell 1;have PK:=HX.out.cell 2;simp only[gl]at PG PI PK;refine rT (fun(w':World)=>w'.cell? ⟨xb,0,none⟩=some (nU e0.key)∧w'.cell? ⟨xb,1,none⟩=some (nU e0.val)∧w'.cell? ⟨xb,2,none⟩=some (nU e0.hash)) [8] ?_;have hHeld:=(⟨PG,PI,PK⟩:_∧_∧_);refine vW 0 rfl ?_;refine vT 1 rfl ?_;refine vW 2 rfl ?_;refine vT 3 rfl ?_;refine vW 4 rfl ?_;refine vW 5 rfl ?_;refine vT 6 rfl ?_;refine nT 7 rfl fun K hK=> ?_;go_simp;refine(PE.out _ ((HS.out.nE.cur _ HI.out).mod (Mod.of_below (Below.refl W3.heap.size W3).drew []) (by simp))).mono ?_;rintro y W4 ⟨rfl,hc4,jP⟩;replace jP:Mod [cb] W3 W4:=(Mod.of_below (Below.refl W3.heap.size W3).drew [cb]).then jP;replace HR:=qd (HR.out.mod jP OO.out);have iw:=qd hc4;have Dk:=qd jP;replace HX:=qd (HX.out.mod jP HXm.out);clear hc4 jP PE PG PI PK;have PG:=HX.out.cell 0;have PI:=HX.out.cell 1;have PK:=HX.out.cell 2;simp only[gl]at PG PI PK;go_wp2_with fail;have hHeld:=(⟨PG,PI,PK⟩:_∧_∧_);refine kO hK ?_;clear hK K;refine nT 8 rfl fun K hK=> ?_;have r:=HR.out.c3;obtain⟨f0,f1,f2⟩:=HR.out.f3;have hnw:=((HR.out.ak 0 (.int .i64 1)).ak 1 (nU e0.key)).ak 2 (nU e0.val)
  have jg:=(((Mod.refl [w.heap.size] W4).ak (b:=w.heap.size) (.inl (by simp)) 0 (.int .i64 1)).ak (b:=w.heap.size) (.inl (by simp)) 1 (nU e0.key)).ak (b:=w.heap.size) (.inl (by simp)) 2 (nU e0.val);simp only[pt]at hnw;have hmt:Mod [cb,w.heap.size] W3 ((((W4).setCell ⟨w.heap.size,0,none⟩ (.int .i64 1)).setCell ⟨w.heap.size,1,none⟩ (nU e0.key)).setCell ⟨w.heap.size,2,none⟩ (nU e0.val)):=Dk.out.trans jg (fun q hq _=>by simp at hq⊢;exact .inl hq) (fun q hq _=>by simp at hq⊢;exact .inr hq)
  have HF:=qd (rJ.of (V:=w) HS.out rY.out Co.out HQ.out HI.out jK.out HCc.out (iw.out.mod jg (fun hh=>PD.out (List.mem_singleton.1 hh).symm)) hmt (fun q hq=>by
   rcases List.mem_cons.1 hq with k|k
   ·exact .inl k
   ·rw[List.mem_singleton.1 k];exact .inr ⟨Np.out,HW0.out,Nat.le_refl _⟩))
  have mD:=qd hnw;clear hnw jg hmt;go_simp;refine kO hK ?_;clear hK K;refine vL 9 rfl ?_;refine aQ (by kernel_rfl) ?_ _;go_wp2;refine bodyPost_ret (v:= .tuple #[.agg #[.int .i64 1,nU e0.key,nU e0.val],.nilIface]) (by simp[results,Tryz.results67,go_sem,r.1,r.2.1,r.2.2]) rfl ⟨⟨1,e0.key,e0.val⟩,rfl,HF.out⟩
 |none=>
  have PE:=qd (Oc (HS.out.nE.cur _ HI.out) HD.out hg xO.out.2.1 xO.out.1);have jK:=qd (jH.skip HD.out hg xO.out.1 xO.out.2.2.1 xO.out.2.1 xO.out.2.2.2.1 xO.out.2.2.2.2);go_wp2_with fail;refine PE.out.mono ?_;rintro y W4 ⟨rfl,hc4,jP⟩;replace HR:=qd (HR.out.mod jP OO.out);have iw:=qd hc4;have Dk:=qd jP;have HDn:=qd (DU hc4);clear hc4 jP PE;by_cases hmx:hg<18446744073709551615
  ·have hdn:(behind hg 18446744073709551615).done=false:=by unfold behind;rw[if_neg (by omega),if_pos hmx]
   rw[hdn]at HDn;rw[if_pos hmx]at jK;clear hdn;go_wp2_with fail;refine HDn.out.mono ?_;rintro y W5 ⟨rfl,rfl⟩;clear HDn;have r:=HR.out.c3;obtain⟨f0,f1,f2⟩:=HR.out.f3;have hnw:=((HR.out.ak 0 (.int .i64 2)).ak 1 (.int .u64 0)).ak 2 (.int .u64 0);have jg:=(((Mod.refl [w.heap.size] W4).ak (b:=w.heap.size) (.inl (by simp)) 0 (.int .i64 2)).ak (b:=w.heap.size) (.inl (by simp)) 1 (.int .u64 0)).ak (b:=w.heap.size) (.inl (by simp)) 2 (.int .u64 0);simp only[pt]at hnw;have hmt:Mod [cb,w.heap.size] W3 ((((W4).setCell ⟨w.heap.size,0,none⟩ (.int .i64 2)).setCell ⟨w.heap.size,1,none⟩ (.int .u64 0)).setCell ⟨w.heap.size,2,none⟩ (.int .u64 0)):=Dk.out.trans jg (fun q hq _=>by simp at hq⊢;exact .inl hq) (fun q hq _=>by simp at hq⊢;exact .inr hq)
   have HF:=qd (rJ.of (V:=w) HS.out rY.out Co.out HQ.out HI.out jK.out HCc.out (iw.out.mod jg (fun hh=>PD.out (List.mem_singleton.1 hh).symm)) hmt (fun q hq=>by
    rcases List.mem_cons.1 hq with k|k
    ·exact .inl k
    ·rw[List.mem_singleton.1 k];exact .inr ⟨Np.out,HW0.out,Nat.le_refl _⟩))
   have mD:=qd hnw;clear hnw jg hmt;go_wp2;refine bodyPost_ret (v:= .tuple #[.agg #[.int .i64 2,.int .u64 0,.int .u64 0],.nilIface]) (by simp[results,Tryz.results67,go_sem,r.1,r.2.1,r.2.2]) rfl ⟨⟨2,0,0⟩,rfl,HF.out⟩
  ·have hdn:(behind hg 18446744073709551615).done=true:=by unfold behind;rw[if_neg (by omega),if_neg hmx]
   rw[hdn]at HDn;rw[if_neg hmx]at jK;clear hdn;go_wp2_with fail;refine HDn.out.mono ?_;rintro y W5 ⟨rfl,rfl⟩;clear HDn;have r:=HR.out.c3;obtain⟨f0,f1,f2⟩:=HR.out.f3;have hnw:=((HR.out.ak 0 (.int .i64 3)).ak 1 (.int .u64 0)).ak 2 (.int .u64 0);have jg:=(((Mod.refl [w.heap.size] W4).ak (b:=w.heap.size) (.inl (by simp)) 0 (.int .i64 3)).ak (b:=w.heap.size) (.inl (by simp)) 1 (.int .u64 0)).ak (b:=w.heap.size) (.inl (by simp)) 2 (.int .u64 0);simp only[pt]at hnw;have hmt:Mod [cb,w.heap.size] W3 ((((W4).setCell ⟨w.heap.size,0,none⟩ (.int .i64 3)).setCell ⟨w.heap.size,1,none⟩ (.int .u64 0)).setCell ⟨w.heap.size,2,none⟩ (.int .u64 0)):=Dk.out.trans jg (fun q hq _=>by simp at hq⊢;exact .inl hq) (fun q hq _=>by simp at hq⊢;exact .inr hq)
   have HF:=qd (rJ.of (V:=w) HS.out rY.out Co.out HQ.out HI.out jK.out HCc.out (iw.out.mod jg (fun hh=>PD.out (List.mem_singleton.1 hh).symm)) hmt (fun q hq=>by
    rcases List.mem_cons.1 hq with k|k
    ·exact .inl k
    ·rw[List.mem_singleton.1 k];exact .inr ⟨Np.out,HW0.out,Nat.le_refl _⟩))
   have mD:=qd hnw;clear hnw jg hmt;go_wp2;refine bodyPost_ret (v:= .tuple #[.agg #[.int .i64 3,.int .u64 0,.int .u64 0],.nilIface]) (by simp[results,Tryz.results67,go_sem,r.1,r.2.1,r.2.2]) rfl ⟨⟨3,0,0⟩,rfl,HF.out⟩
end
theorem XI (d:Nat)(fn:Fn)(a b:Array Value)(w:World):(Op.equalIn (d+1) 139 (.func fn a b) .nilFunc).run Tryz.prog w= .ok false w:=by simp[Op.equalIn,run_underlying Tryz.underlying139]
theorem abG (fn:Fn)(a b:Array Value)(w:World):(Op.equal 139 (.func fn a b) .nilFunc).run Tryz.prog w= .ok false w:=XI 9999 fn a b w
theorem Z4 (d:Nat)(x:TypeId)(v:Value)(w:World):(Op.equalIn (d+1) 28 .nilIface (.iface x v)).run Tryz.prog w= .ok false w:=by simp[Op.equalIn,run_underlying Tryz.underlying28]
theorem acs (x:TypeId)(v:Value)(w:World):(Op.equal 28 .nilIface (.iface x v)).run Tryz.prog w= .ok false w:=Z4 9999 x v w
theorem abH (a:Addr)(w:World):Calls Tryz.prog 64 #[.nilIface,.iface 344 (.pointer (some a))] w fun e w'=>e= .returned (.bool false)∧w=w':=by
 have hq:∀W:World,(binOp .eql 28 .nilIface (.iface 344 (.pointer (some a)))).run Tryz.prog W= .ok (.bool false) W:=fun W=>by
  simp only[binOp];simp[acs]
 go_in;go_wp2;go_ret;exact⟨rfl,rfl⟩
theorem Z5 {S:List Nat}{K:Cw→World→Prop}(G:FuncId)(cap:Array Value){V:World}{fb ob eb:Nat}(hG:∀W:World,(callFunc G cap).run Tryz.prog W= .ok (.enter G cap) W)(hF:aj V fb 139 #[.func (.func G) #[] cap])(hO:aj V ob 95 #[.int .i64 0,.int .u64 0,.int .u64 0])(hE:aj V eb 28 #[.nilIface])(hN:ob∉S∧eb∉S)(hoe:ob≠eb)
  (hc:Calls Tryz.prog G cap V fun y w1=>∃it,y= .returned (.tuple #[xM it,.nilIface])∧Mod S V w1∧K it w1):
  Calls Tryz.prog 105 #[pQ fb,pQ ob,pQ eb] V fun y w'=>y= .returned undef∧∃it w1,K it w1∧Mod S V w1∧Mod [ob] w1 w'∧aj w' ob 95 #[nI it.st,nU it.key,nU it.val]∧aj w' eb 28 #[.nilIface]:=by
 have HO:=qd hO;have HE:=qd hE;have HN:=qd hN;have HC:=qd hc;have x0:=hF.cell 0;simp only[List.getElem?_toArray,List.getElem?_cons_zero]at x0;have hgg:=hG;have HOE:=qd hoe;clear hF hO hE hN hc hoe;go_in;go_wp2_with fail;refine HC.out.mono ?_;rintro y w1 ⟨it,rfl,hm,hk⟩;have wR:=HO.out.mod hm HN.out.1;have hE1:=HE.out.mod hm HN.out.2;have o0:=wR.cell 0;have o1:=wR.cell 1;have o2:=wR.cell 2;have e0:=hE1.cell 0;simp only[gl]at o0 o1 o2 e0;obtain⟨of0,of1,of2⟩:=wR.f3;have ef0:=hE1.frozen 0;have hid:=hE1.zC (i:=0) (u:= .nilIface) rfl;have hn:=((wR.ak 0 (nI it.st)).ak 1 (nU it.key)).ak 2 (nU it.val);have hm2:=(((Mod.refl [ob] w1).sl 0 (nI it.st)).sl 1 (nU it.key)).sl 2 (nU it.val);simp only[pt]at hn;have hE2:=hE1.mod hm2 (fun hh=>HOE.out (List.mem_singleton.1 hh).symm);have abI:=hE2.zC (i:=0) (u:= .nilIface) rfl;have HF:=qd (show∃it w2,K it w2∧Mod S V w2∧Mod [ob] w2 _∧aj _ ob 95 #[nI it.st,nU it.key,nU it.val]∧aj _ eb 28 #[.nilIface]from⟨it,w1,hk,hm,hm2,hn,hE2⟩);have hne1:=HOE.out;have hne2:eb≠ob:=fun e=>hne1 e.symm;clear e0 ef0;have e0:=hE1.cell 0;simp only[gl]at e0;have ef0:=hE1.frozen 0;have HI:=qd abI;clear hm hk wR hE1 hid hn hm2 hE2 abI;unfold xM;go_wp2;go_end0;rw[HI.out];exact⟨rfl,HF.out⟩
theorem XJ {S:List Nat}{K:World→Cw→World→Prop}(G:FuncId)(cap:Array Value)(w:World)(hG:∀W:World,(callFunc G cap).run Tryz.prog W= .ok (.enter G cap) W)(hS:∀q∈S,q<w.heap.size)
  (hc:∀V,Below w.heap.size w V→w.heap.size+5≤V.heap.size→Calls Tryz.prog G cap V fun y w1=>∃it,y= .returned (.tuple #[xM it,.nilIface])∧Mod S V w1∧K V it w1):
  Calls Tryz.prog 65 #[.func (.func G) #[] cap] w fun y w'=>∃V it w1 T,y= .returned (.tuple #[xM it,.nilIface])∧Below w.heap.size w V∧Mod S V w1∧K V it w1∧Mod T w1 w'∧∀q∈T,w.heap.size≤q∧q<V.heap.size:=by
 obtain⟨W,hW,hB,hBf,hBr,hBo,X0,Cq⟩:=qX5 w 139 #[.func (.func G) #[] cap] 95 #[.int .i64 0,.int .u64 0,.int .u64 0] 95 #[.int .i64 0,.int .u64 0,.int .u64 0] 95 #[.int .i64 0,.int .u64 0,.int .u64 0] 28 #[.nilIface];have hsz:=hB.size;have HW:=qd hW;have HB:=qd hB;have Yv:=Cq.lt;have Nq:=qd hBf;have HBr:=qd hBr;have MU:=qd hBo;have uL:=qd Cq;have HS:=qd hS;have HC:=qd hc;clear hW hB hBf hBr hBo X0 Cq hS hc;have nS:∀(fn:Fn) (first cap:Array Value) (w:World),(Instr.makeFunc fn first cap).run Tryz.prog w= .ok (.func fn first cap) w:=fun _ _ _ _=>rfl
 have hq:∀W:World,(binOp .eql 139 (.func (.func G) #[] cap) .nilFunc).run Tryz.prog W= .ok (.bool false) W:=fun W=>by
  simp only[binOp];simp[abG]
 have oh:=(Below.refl W.heap.size W).alloc (Nat.le_refl _) (.cells #[.nilIface] 28);have qj:Below w.heap.size w (W.alloc (.cells #[.nilIface] 28)):=bR oh HB.out
 have hlV:w.heap.size+5≤(W.alloc (.cells #[.nilIface] 28)).heap.size:=by simp;omega
 have YZ:=qd (show∀q,w.heap.size≤q→q∉S from fun q hq hs=>by have:=HS.out q hs;omega)
 have rY:=qd (zT (S:=(w.heap.size+1+1)::S) (K:=fun w'=>∃it w1,K (W.alloc (.cells #[.nilIface] 28)) it w1∧Mod S (W.alloc (.cells #[.nilIface] 28)) w1∧Mod [(w.heap.size+1+1)] w1 w'∧aj w' (w.heap.size+1+1) 95 #[nI it.st,nU it.key,nU it.val]∧aj w' (w.heap.size+1+1+1+1) 28 #[.nilIface]) 105 #[pQ w.heap.size,.pointer (some ⟨(w.heap.size+1+1),0,none⟩),.pointer (some ⟨(w.heap.size+1+1+1+1),0,none⟩)] W (fun V=>enters_of Tryz.func105 (by kernel_rfl) rfl _ V)
  (fun hg=>by
   rcases List.mem_cons.1 hg with k|k
   ·omega
   ·exact YZ.out _ (by omega) k)
  ((Z5 G cap hG (Nq.out.mod (Mod.of_below oh []) (by simp)) (MU.out.mod (Mod.of_below oh []) (by simp)) (uL.out.mod (Mod.of_below oh []) (by simp)) ⟨YZ.out _ (by omega),YZ.out _ (by omega)⟩ (by omega) (HC.out _ qj hlV)).mono (fun y w1 hh=>⟨hh.1,(by
   obtain⟨it,w2,k1,k2,k3,_,_⟩:=hh.2
   exact k2.trans k3 (fun q hq _=>List.mem_cons_of_mem _ hq) (fun q hq _=>by rw[List.mem_singleton.1 hq];simp)),hh.2⟩)))
 have HV:=qd (And.intro qj hlV);have Nc:=qd oh;have x0:=Nq.out.cell 0;simp only[List.getElem?_toArray,List.getElem?_cons_zero]at x0;clear oh qj hlV;go_in;go_upto_region 3 with fail;rw[←HW.out];go_wp2_with fail;refine rY.out.mono ?_;rintro y w1 ⟨rfl,hm1,it,w2,hk,hm2,gB,ho,he⟩
 have hr1:=(HBr.out.mod (Mod.of_below Nc.out []) (by simp)).mod hm1 (fun hg=>by
  rcases List.mem_cons.1 hg with k|k
  ·omega
  ·exact YZ.out _ (by omega) k)
 have r0:=hr1.cell 0;have r1:=hr1.cell 1;have r2:=hr1.cell 2;have o0:=ho.cell 0;have o1:=ho.cell 1;have o2:=ho.cell 2;have e0:=he.cell 0;simp only[gl]at r0 r1 r2 o0 o1 o2 e0;obtain⟨f0,f1,f2⟩:=hr1.f3;have jg:=(((Mod.refl [(w.heap.size+1)] w1).sl 0 (nI it.st)).sl 1 (nU it.key)).sl 2 (nU it.val);have hmt:=gB.trans jg (U:=[(w.heap.size+1),(w.heap.size+1+1)]) (fun q hq _=>by simp at hq⊢;exact .inr hq) (fun q hq _=>by simp at hq⊢;exact .inl hq)
 have HF:=qd (show∃V JK w1 T,(Ending.returned (.tuple #[.agg #[nI it.st,nU it.key,nU it.val],.nilIface]))= .returned (.tuple #[xM JK,.nilIface])∧Below w.heap.size w V∧Mod S V w1∧K V JK w1∧Mod T w1 _∧∀q∈T,w.heap.size≤q∧q<V.heap.size from⟨_,it,w2,_,rfl,HV.out.1,hm2,hk,hmt,fun q hq=>by
  have:=HV.out.2;simp at hq
  rcases hq with k|k<;>omega⟩)
 clear hm1 hk hm2 gB ho he hr1 jg hmt rY;go_wp2;refine bodyPost_ret (v:= .tuple #[.agg #[nI it.st,nU it.key,nU it.val],.nilIface]) (by simp[results,Tryz.results65,go_sem,r0,r1,r2]) rfl HF.out
end Go.Proofs.YtgkeameopnpinaaGreatDoor
