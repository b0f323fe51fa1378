/- An iterator between writes: what it has passed, and how far it is from its end. No statement of the claim. -/
import Derived.Test.YtbfpfgfgfjhpfaaGreatDoorRmP
import Derived.Test.YtbfpfgfgfjhpfaaGreatDoorSq
import Derived.Test.YtbfpfgfgfjhpfaaGreatDoorCoX
import Derived.Test.YtbfpfgfgfjhpfaaGreatDoorRmH
import Derived.Deep.LoopGhost
import Derived.Test.YtbfpfgfgfjhpfaaGreatDoorPlA
import Derived.Test.YtbfpfgfgfjhpfaaGreatDoorCoB
import Derived.Laws.Closers25b
namespace Go.Proofs.YtbfpfgfgfjhpfaaGreatDoor
set_option maxRecDepth 100000
set_option maxHeartbeats 8000000
open Go.RowKit dP zW
section
theorem wF {m:av}{h k:Nat}(hm:m.hash<h∨(m.hash=h∧m.key≤k)):(behind h k).passed m:=by
 unfold behind gq.passed;split
 ·right;simp[bG];omega
 ·split
  ·right;simp[bG];omega
  ·left;rfl
section
variable {es : List av} {hs : List Nat} {c c' : gq} {i : AY}
theorem iT.keeps (h:iT es hs c i c'){e:av}(he:e.hash<18446744073709551616∧e.key<18446744073709551616)(hp:c.passed e):c'.passed e:=by
 cases h with
 |done=>exact hp
 |yield hd hi m h1 h2 h3 h4 hm=>
  have hp2:bG e ⟨c.key,0,c.hash⟩=true:=hp.resolve_left (by rw[hd];simp);have hn:=hm.2.1;refine wF ?_;simp[bG]at hp2 hn;omega
 |skip hd hi h1 h2 h3 h4 hm=>
  have hp2:bG e ⟨c.key,0,c.hash⟩=true:=hp.resolve_left (by rw[hd];simp);refine wF ?_;simp[bG]at hp2;omega
theorem iT.tells (h:iT es hs c i c'):(i.st=1∧c.done=false∧∃m∈es,i.key=m.key∧i.val=m.val∧¬c.passed m∧c'.passed m)∨((i.st=2∨i.st=3)∧i.key=0∧i.val=0∧(i.st=3↔c'.done=true)∧(c.done=true→i.st=3)):=by
 cases h with
 |done hd=>exact .inr ⟨.inr rfl,rfl,rfl,by simp[hd],fun _=>rfl⟩
 |yield hd hi m h1 h2 h3 h4 hm=>
  refine .inl ⟨rfl,hd,m,(pO.1 hm.1).1,rfl,rfl,fun hp=> ?_,wF (.inr ⟨rfl,Nat.le_refl _⟩)⟩;have:=hp.resolve_left (by rw[hd];simp);rw[hm.2.1]at this;cases this
 |skip hd hi h1 h2 h3 h4 hm=>
  refine .inr ⟨by simp only;split<;>simp,rfl,rfl, ?_,fun h=>by rw[hd]at h;cases h⟩;unfold behind
  by_cases hlt:hi<18446744073709551615<;>simp[hlt]
instance (c:gq)(e:av):Decidable (c.passed e):=by unfold gq.passed;infer_instance
def qN (es:List av)(hs:List Nat)(c:gq):Nat:=if c.done=true then 0 else(es.filter fun e=> !decide (c.passed e)).length+(hs.filter fun h=>decide (c.hash≤h)).length
theorem ads (es:List av)(hs:List Nat)(c:gq):qN es hs c≤es.length+hs.length:=by
 unfold qN;split
 ·exact Nat.zero_le _
 ·exact Nat.add_le_add (List.length_filter_le _ _) (List.length_filter_le _ _)
theorem filter_le {α:Type}{p q:α→Bool}:∀{l:List α},(∀x∈l,p x=true→q x=true)→(l.filter p).length≤(l.filter q).length
 | [],_=>Nat.le_refl _
 |x::l,h=>by
  have ih:=filter_le (l:=l) fun y hy=>h y (by simp[hy]);rw[List.filter_cons,List.filter_cons];have hx:=h x (by simp);split
  ·rename_i hp;rw[if_pos (hx hp)];simp;exact ih
  ·split
   ·simp;omega
   ·exact ih
theorem filter_lt {α:Type}{p q:α→Bool}:∀{l:List α},(∀x∈l,p x=true→q x=true)→(∃x∈l,q x=true∧p x=false)→(l.filter p).length<(l.filter q).length
 | [],_,h=>by obtain⟨_,h,_⟩:=h;cases h
 |x::l,h,hx=>by
  have hle:=filter_le (l:=l) fun y hy=>h y (by simp[hy]);rw[List.filter_cons,List.filter_cons];obtain⟨y,hy,h1,h2⟩:=hx;rcases List.mem_cons.1 hy with e|hy
  ·subst e;rw[if_neg (by rw[h2];simp),if_pos h1];simp;omega
  ·have hlt:=filter_lt (l:=l) (fun z hz=>h z (by simp[hz])) ⟨y,hy,h1,h2⟩;have hq:=h x (by simp);split
   ·rename_i hp;rw[if_pos (hq hp)];simp;exact hlt
   ·split
    ·simp;omega
    ·exact hlt
theorem iT.qN (h:iT es hs c i c')(hes:∀e∈es,e.hash<18446744073709551616∧e.key<18446744073709551616)(hne:i.st≠3):qN es hs c'<qN es hs c:=by
 have hk:=fun(e:av) (he:e∈es) (hp:c.passed e)=>h.keeps (hes e he) hp;rcases h.tells with⟨_,hd,m,h2,_,_,h3,h4⟩|⟨hst,_,_,h3,h4⟩
 ·have hm1:1≤(es.filter fun e=> !decide (c.passed e)).length:=by
   have:m∈es.filter fun e=> !decide (c.passed e):=List.mem_filter.2 ⟨h2,by simp[h3]⟩;exact List.length_pos_of_mem this
  unfold Go.Proofs.YtbfpfgfgfjhpfaaGreatDoor.qN;rw[if_neg (show¬c.done=true by rw[hd];simp)];by_cases hd':c'.done=true
  ·rw[if_pos hd'];omega
  ·rw[if_neg hd']
   have e1:=filter_lt (l:=es) (p:=fun e=> !decide (c'.passed e)) (q:=fun e=> !decide (c.passed e)) (fun e he hp=>by
    simp at hp⊢;exact fun hq=>hp (hk e he hq)) ⟨m,h2,by simp[h3],by simp[h4]⟩
   have e2:(hs.filter fun h=>decide (c'.hash≤h)).length≤(hs.filter fun h=>decide (c.hash≤h)).length:=filter_le fun x _ hx=>by
    simp at hx⊢
    cases h with
    |yield hd hi m' g1 g2 g3 g4 hm=>
     have hn:=hm.2.1;simp[bG]at hn
     have:m'.hash≤(behind m'.hash m'.key).hash:=by
      unfold behind;split
      ·exact Nat.le_refl _
      ·split
       ·exact Nat.le_succ _
       ·rename_i a b;exact absurd (by unfold behind;rw[if_neg a,if_neg b]) hd'
     omega
    |done hd2=>rw[hd]at hd2;cases hd2
    |skip hd2 x g1 g2 g3=>
     have:x≤(behind x 18446744073709551615).hash:=by
      unfold behind;rw[if_neg (by omega)];split
      ·exact Nat.le_succ _
      ·rename_i b;exact absurd (by unfold behind;rw[if_neg (by omega),if_neg b]) hd'
     omega
   omega
 ·have hd:c.done=false:=by
   cases hd:c.done with
   |false=>rfl
   |true=>exact absurd (h4 hd) hne
  have hd':¬c'.done=true:=fun e=>hne (h3.2 e);unfold Go.Proofs.YtbfpfgfgfjhpfaaGreatDoor.qN;rw[if_neg (show¬c.done=true by rw[hd];simp),if_neg hd']
  have e1:(es.filter fun e=> !decide (c'.passed e)).length≤(es.filter fun e=> !decide (c.passed e)).length:=filter_le fun e he hp=>by
   simp at hp⊢;exact fun hq=>hp (hk e he hq)
  have e2:(hs.filter fun h=>decide (c'.hash≤h)).length<(hs.filter fun h=>decide (c.hash≤h)).length:=by
   cases h with
   |done hd2=>rw[hd]at hd2;cases hd2
   |yield hd2 x m g1 g2 g3 g4 hm=>
    rcases hst with k|k<;>cases k
   |skip hd2 x g1 g2 g3 g4 hm=>
    have hx:x<18446744073709551615:=by
     by_cases hlt:x<18446744073709551615
     ·exact hlt
     ·exact absurd (by unfold behind;rw[if_neg (by omega),if_neg hlt]) hd'
    have hb:(behind x 18446744073709551615).hash=x+1:=by
     unfold behind;rw[if_neg (by omega),if_pos hx]
    rw[hb];exact filter_lt (fun y _ hy=>by simp at hy⊢;omega) ⟨x,g2,by simpa using g1,by simp⟩
  omega
end
end
section
variable {es out : List av} {G hs : List Nat} {b' n sz : Nat} {c : gq} {t : TypeId} {v : Value} {xs : List Value}
def qO (e:av):Nat×Nat:=(e.key,e.val)
theorem UH (hn:(es.map av.key).Nodup)(ho:out.Nodup)(hs:∀e∈out,e∈es):((out.map qO).map Prod.fst).Nodup:=by
 rw[List.map_map];show(out.map av.key).Nodup;unfold List.Nodup;rw[List.pairwise_map];exact ho.imp_of_mem fun h1 h2 hne hk=>hne (UF hn _ (hs _ h1) _ (hs _ h2) hk)
theorem Si (h:Way es hs n out c):out.length≤es.length:=Er h.oo.nodup fun e he=>((h.mem e).1 he).1
theorem Ce (hn:(es.map av.key).Nodup)(h:Way es hs n out c):((out.map qO).map Prod.fst).Nodup:=UH hn h.oo.nodup fun e he=>((h.mem e).1 he).1
theorem Z6 {m:av}(hn:(es.map av.key).Nodup)(h:Way es hs n (out++[m]) c):(bF (out.map qO)).length<es.length∧om (bF (out.map qO)) m.key=false:=by
 have h1:=Si h;have h2:=Ce hn h;rw[List.map_append,List.map_append,List.nodup_append]at h2;have h3:=xI h2.1;rw[List.length_append,List.length_singleton]at h1;refine⟨by rw[h3.2,List.length_map];omega, ?_⟩;rw[zX (iq _)]
 cases hg:aS (bF (out.map qO)) m.key with
 |none=>rfl
 |some v=>
  have h4:=(h3.1 _).1 ((gQ (iq _)).1 hg);exact absurd rfl (h2.2.2 m.key (List.mem_map_of_mem (f:=Prod.fst) h4) m.key (by simp[qO]))
theorem abM (hn:(es.map av.key).Nodup)(h:Way es hs n out c)(hd:c.done=true):(∀k,aS (bF (out.map qO)) k=tJ es k)∧(bF (out.map qO)).length=es.length:=by
 have h1:=h.adl hn hd;have h3:=xI (Ce hn h);refine⟨fun k=> ?_,by rw[h3.2,List.length_map,h1.length_eq]⟩;unfold tJ
 cases hl:look es k with
 |none=>
  rw[Option.map_none,iX];intro p hp hk;obtain⟨e,he,rfl⟩:=List.mem_map.1 ((h3.1 p).1 hp);have:=jq hn (h1.mem_iff.1 he);rw[show e.key=k from hk,hl]at this;cases this
 |some e=>
  obtain⟨he,rfl⟩:=rz hl;exact(gQ (iq _)).2 ((h3.1 _).2 (List.mem_map.2 ⟨e,h1.mem_iff.2 he,rfl⟩))
theorem Sj {W0:World}{E:Nat→Addr}{H:Nat→Nat}{Kk M I b:Nat}{w:World}{a:Pool}{ids:List Nat}{its:List It}{gv:Nat}{dK:bE}(h:jV W0 E H Kk M I b G w a ids its gv dK):∀e∈a.ents,e.hash<18446744073709551616∧e.key<18446744073709551616:=fun e he=>by
 obtain⟨C,GC,mb,h1,_⟩:=h;obtain⟨i,N,g1,g2⟩:=mI.1 he;have h3:=((h1.core.facts.2.2.2.2.2.1 i N g1).hash e g2).1;exact⟨h3.h64,h3.k64⟩
theorem PE {w w':World}{S:List Nat}{base:Nat}(h:w.ownsRow base t sz v n xs)(hm:Mod S w w')(hS:∀q∈v.ownBlock.toList,q∉S):w'.ownsRow base t sz v n xs:=by
 refine⟨h.1, ?_⟩;rcases h.2 with k|⟨g,cap,cur,rfl,k2,k3,k4⟩
 ·exact .inl k
 ·refine .inr ⟨g,cap,cur,rfl,k2, ?_,k4⟩;rw[hm.block g (Array.getElem?_eq_some_iff.1 k3).1 (hS g (by simp[Value.ownBlock]))];exact k3
theorem yL {w:World}{b:Nat}(h:w.ownsRow b t sz v n xs)(hb:b'≤b):w.ownsRow b' t sz v n xs:=
 ⟨h.1,h.2.imp id fun⟨g,cap,cur,h1,h2,h3⟩=>⟨g,cap,cur,h1,Nat.le_trans hb h2,h3⟩⟩
theorem abN {b fb most:Nat}{w:World}{F:List Nat}{l:PL}(h:kM b w fb most F l)(hb:b'≤b):kM b' w fb most F l:=by
 obtain⟨v,h1,h2,h3,h4,h5⟩:=h;exact⟨v,h1,yL h2 hb,h3,Nat.le_trans hb h4,h5⟩
structure Two (W0:World)(E:Nat→Addr)(H:Nat→Nat)(K M I b:Nat)(w0 w:World)(G0 F:List Nat)(a:Pool)(ids:List Nat)(its:List It)(gv:Nat)(dK:bE)(fb most:Nat)(F2:List Nat)(l:PL):Prop where
 map:jV W0 E H K M I b F w a ids its gv dK
 fn:kM w0.heap.size w fb most F2 l
 apart:∀q∈F2,q∉F
 from_:∀q∈F,q∈G0∨w0.heap.size≤q
 mod:Mod G0 w0 w
 base:W0.heap.size≤w0.heap.size
section
variable {W0 : World} {E : Nat → Addr} {H : Nat → Nat} {K M I b : Nat} {w0 w w' : World} {G0 F F2 : List Nat} {a a' : Pool} {ids aO : List Nat} {its oH : List It} {gv yH : Nat} {dK dL : bE} {fb most : Nat} {l l' : PL}
theorem Two.step (h:Two W0 E H K M I b w0 w G0 F a ids its gv dK fb most F2 l)(hr:qC W0 E H K M I b F w w' a' aO oH yH dL):∃F',Two W0 E H K M I b w0 w' G0 F' a' aO oH yH dL fb most F2 l:=by
 obtain⟨F',h1,h2,h3⟩:=hr;have hsz:=h.mod.size;refine⟨F',h1,h.fn.mod h3 fun q hq hf=>h.apart q hf hq,fun q hq hf=> ?_,fun q hq=> ?_,h.mod.trans h3 (fun _ hk _=>hk) (fun q hq hl=>(h.from_ q hq).elim id fun k=>absurd hl (by omega)),h.base⟩
 ·rcases h2 q hf with k|k
  ·exact h.apart q hq k
  ·have:=(h.fn.fH q hq).1;omega
 ·rcases h2 q hq with k|k
  ·exact h.from_ q k
  ·exact .inr (by omega)
theorem Two.put (h:Two W0 E H K M I b w0 w G0 F a ids its gv dK fb most F2 l)(hr:Gh w0.heap.size w w' fb most F2 l'):∃F',Two W0 E H K M I b w0 w' G0 F a ids its gv dK fb most F' l':=by
 obtain⟨F',h1,h2,h3⟩:=hr;have hsz:=h.mod.size;refine⟨F',h.map.mod h3 (fun q hq=>⟨h.apart q hq,Nat.le_trans h.base (h.fn.fH q hq).2⟩),h1,fun q hq hf=> ?_,h.from_,h.mod.trans h3 (fun _ hk _=>hk) (fun q hq hl=>absurd (h.fn.fH q hq).2 (by omega)),h.base⟩;rcases h2 q hq with k|k
 ·exact h.apart q k hf
 ·have:=(h.map.facts.1 q hf).1;omega
theorem Two.below (h:Two W0 E H K M I b w0 w G0 F a ids its gv dK fb most F2 l)(hb:Below w.heap.size w w'):Two W0 E H K M I b w0 w' G0 F a ids its gv dK fb most F2 l:=
 ⟨h.map.below hb,h.fn.below hb,h.apart,h.from_,h.mod.then (Mod.of_below hb _),h.base⟩
end
theorem abO {W0:World}{E:Nat→Addr}{H:Nat→Nat}{K M I b:Nat}{w:World}{R:Nat→Option Nat}{gv:Nat}(h:ku W0 E H K M I b G w R n [] gv)(hI:1≤I)(hg:gv≤100000)(h6:gN E W0 6):
  Calls Tryz.prog 14 #[.pointer (some ⟨b,0,none⟩)] w fun y w'=>∃v l G',y= .returned (.tuple #[v,.nilIface])∧eY l∧(∀k,aS l k=R k)∧w'.ownsRow w.heap.size 37 2 v l.length (l.flatMap aM)∧(∀q∈v.ownBlock.toList,q∉G')∧ku W0 E H K M I b G' w' R n [] (gv+1)∧(∀q∈G',q∈G∨w.heap.size≤q)∧Mod G w w':=by
 obtain⟨a,ids,aeT,hR,rfl,rfl⟩:=h;obtain⟨hlts,hnd,hlM,hM,h32,_,_,_,_,adt⟩:=hR.facts;have hop:=R6 hR (by simp;omega) hg;simp only[List.nil_append]at hop;have NV:=qd hop;have ug:=qd hnd;have Es:=qd (Sj hR);have H6:=qd h6;have HW0:=qd adt.size;have UJ:=qd (show a.ents.length≤192 by omega);have qj:=qd (show a.ents.length+(fI a).length≤224 from by unfold fI;rw[List.length_map];omega);have agK:=qd (ads a.ents (fI a) ⟨0,0,false⟩);clear hop hR hlts hnd hlM hM h32 adt hg h6 hI;go_in;go_wp2_with fail;refine NV.out.mono ?_;rintro y w1 ⟨cb,rfl,F1,hA1,hs1,hm1⟩;have iC:=qd (ade hA1);have jS:=qd (Ia a.ents.length w1);obtain⟨n0,hn0⟩:∃n0,n0=a.ents.length:=⟨_,rfl⟩;rw[←hn0]at iC jS;have Om:=qd hn0;have HX:=qd (And.intro hA1 (And.intro hs1 hm1));clear hA1 hs1 hm1 NV hn0;go_wp2_with fail;refine iC.out.mono ?_;rintro y wq ⟨rfl,rfl⟩;go_wp2_with fail;refine jS.out.mono ?_;rintro y w2 ⟨rfl,hf2,hb2⟩;obtain⟨fb,iB⟩:∃fb,fb=w1.heap.size:=⟨_,rfl⟩
 have HT:=qd (show Two W0 E H K M I b w w2 G F1 a ids [⟨gv+1,cb,⟨0,0,false⟩⟩] (gv+1) aeT fb n0 [fb] (bF (([]:List av).map qO))from by
  obtain⟨g1,g2,g3⟩:=HX.out;have hsz:=g3.size;rw[iB]
  exact⟨g1.below hb2,abN hf2 hsz,fun q hq hF=>by have:=(g1.facts.1 q hF).1;simp at hq;omega,g2,g3.then (Mod.of_below hb2 _),HW0.out⟩)
 rw[←iB];have HW:=qd (Way.start a.ents (fI a));clear hf2 hb2 iB HX iC jS;go_wp2;go_loopg [7] (qN a.ents (fI a) ⟨0,0,false⟩) (fun k _ wr=>∃(n1:Nat) (F:List Nat) (c:gq) (dK:bE) (out:List av) (F2:List Nat),k=qN a.ents (fI a) c∧Hid (Two W0 E H K M I b w wr G F a ids [⟨gv+1,cb,c⟩] (gv+1) dK fb n0 F2 (bF (out.map qO)))∧Hid (Way a.ents (fI a) n1 out c))
 case atStart=>exact⟨0,F1,_,_,[],[fb],rfl,HT,HW⟩
 case round=>
  clear HT HW;obtain⟨n1,F,c,dK,out,F2,hk,HT,HW⟩:=hrel;have gT:=J3 HT.out.map H6.out (id:=gv+1) (cb:=cb) (c:=c) (by simp) HW.out.ok;unfold wI at gT;replace gT:=qd gT;have HK:=qd hk;clear hk;go_wp2_with fail;refine gT.out.mono ?_;rintro y w5 ⟨it,c',dL,rfl,hns,-,hrt⟩;obtain⟨out',hw',hor⟩:=HW.out.next ug.out Es.out hns;have pz:=qd (fun hst:it.st≠3=>hns.qN Es.out hst);obtain⟨F',rR⟩:=HT.out.step hrt;have HT5:=qd (show Two W0 E H K M I b w w5 G F' a ids [⟨gv+1,cb,c'⟩] (gv+1) dL fb n0 F2 (bF (out.map qO))from by simpa[j5]using rR);have HW5:=qd hw';have HOr:=qd hor;obtain⟨st,ky,vl⟩:=it;clear rR hrt hns hw' hor gT HT HW;go_upto_region 8 with fail;refine bU (F:=fun v=>aj v w5.heap.size 86 #[.int .i64 (st:Int),.int .u64 (ky:Int),.int .u64 (vl:Int)]∧Below w5.heap.size w5 v) ⟨aj.new w5 86 #[.int .i64 (st:Int),.int .u64 (ky:Int),.int .u64 (vl:Int)],(Below.refl w5.heap.size w5).alloc (Nat.le_refl _) _⟩ ?_;rintro w6 ⟨jI,hb6⟩;obtain⟨bx,hbx⟩:∃bx,bx=w5.heap.size:=⟨_,rfl⟩;rw[←hbx]at jI⊢;obtain⟨x0,x1,x2⟩:=jI.c3;have yM:=qd (HT5.out.below hb6);clear jI hb6 hbx HT5;rcases HOr.out with⟨hst,_,m,_,hout,_,_,hky,hvl,_⟩|⟨hst,hout,_,_,h23,hdn⟩
  ·try simp only at hst hky hvl
   subst hst;subst hky;subst hvl;subst hout;have PG:=qd (show qN a.ents (fI a) c'<gk from by rw[HK.out];exact pz.out (by decide));have hroom:=Z6 ug.out HW5.out
   have hlen:(bF (out.map qO)).length≤192:=by have:=hroom.1;have:=UJ.out;omega
   have jE:=qd (Ap yM.out.fn (by omega) m.key m.val (fun _=>by rw[Om.out];exact hroom.1) (by rw[Om.out];have:=UJ.out;omega));clear pz HOr hroom hlen;go_wp2_with fail;refine jE.out.mono ?_;rintro y w7 ⟨rfl,hto⟩;obtain⟨F3,hT7⟩:=yM.out.put hto;have LV:=qd (show Two W0 E H K M I b w w7 G F' a ids [⟨gv+1,cb,c'⟩] (gv+1) dL fb n0 F3 (bF ((out++[m]).map qO))from by rw[List.map_append,List.map_singleton,yQ];exact hT7);clear hto hT7 yM jE x0 x1 x2;go_wp2;go_roundg (qN a.ents (fI a) c')
   case measure=>exact PG.out
   case rel=>exact⟨n1+1,F',c',dL,out++[m],F3,rfl,LV,HW5⟩
  ·try simp only at hst h23 hdn
   subst hout;rcases h23 with rfl|rfl
   ·have PG:=qd (show qN a.ents (fI a) c'<gk from by rw[HK.out];exact pz.out (by decide));clear pz HOr hdn hst;go_wp2;go_roundg (qN a.ents (fI a) c')
    case measure=>exact PG.out
    case rel=>exact⟨n1+1,F',c',dL,out',F2,rfl,yM,HW5⟩
   ·have hend:=abM ug.out HW5.out (hdn.1 rfl);have PI:=qd hend;have nJ:=qd (BG yM.out.fn (by rw[hend.2];have:=UJ.out;omega));clear pz HOr hdn hst hend;go_wp2_with fail;refine nJ.out.mono ?_;rintro y w7 ⟨v',rfl,vK,mZ⟩;obtain⟨A',c7,rfl⟩:=aU vK;have LV:=qd (yM.out.below mZ);have FY:=qd (And.intro vK (And.intro mZ.size (show∀q∈F',q<w6.heap.size from fun q hq=>(yM.out.map.facts.1 q hq).1)));have Ar:=qd (Pz LV.out.map (j:=0) rfl);have aeU:=yM.out.mod.size;clear vK mZ nJ yM x0 x1 x2;go_wp2_with fail;refine Ar.out.mono ?_;rintro y w8 ⟨rfl,F8,hA8,rU,wJ⟩;have hown:∀q∈(Value.slice A' (bF (out'.map qO)).length c7).ownBlock.toList,w6.heap.size≤q∧q<w7.heap.size:=fun q hq=>FY.out.1.lt q (by simpa using hq)
    have HFin:=qd (show w8.ownsRow w.heap.size 37 2 (.slice A' (bF (out'.map qO)).length c7) (bF (out'.map qO)).length ((bF (out'.map qO)).flatMap aM)∧(∀q∈(Value.slice A' (bF (out'.map qO)).length c7).ownBlock.toList,q∉F8)∧ku W0 E H K M I b F8 w8 (tJ a.ents) a.ents.length [] (gv+1)∧(∀q∈F8,q∈G∨w.heap.size≤q)∧Mod G w w8 from by
     refine⟨PE (yL FY.out.1 aeU) wJ (fun q hq hF=> ?_),fun q hq hF=> ?_,⟨a,ids,dL,by simpa using hA8,rfl,rfl⟩,fun q hq=> ?_,LV.out.mod.trans wJ (fun _ hk _=>hk) (fun q hq hl=>(LV.out.from_ q hq).elim id (fun k=>absurd hl (by omega)))⟩
     ·have:=hown q hq;have:=FY.out.2.2 q hF;omega
     ·have h1:=hown q hq;rcases rU q hF with k|k
      ·have:=FY.out.2.2 q k;omega
      ·omega
     ·rcases rU q hq with k|k
      ·exact LV.out.from_ q k
      ·exact .inr (by have:=LV.out.mod.size;omega))
    clear hA8 rU wJ hown Ar LV FY;go_wp2;refine bodyPost_ret (v:= .tuple #[.slice A' (bF (out'.map qO)).length c7,.nilIface]) (by simp[results,Tryz.results14,go_sem]) rfl ⟨_,bF (out'.map qO),F8,rfl,iq _,PI.out.1,HFin.out⟩
end
section
variable {m t : PL} {k n : Nat} {p : Int} {q : Nat × Nat}
def eu (p:Int)(t:PL)(q:Nat×Nat):PL:=
 match aS t q.1 with
 |some old=>if xQ p then gJ t q.1 (qw p old q.2)else qY t q.1
 |none=>gJ t q.1 q.2
def l7 (p:Int)(l m:PL):PL:=if 1≤p∧p≤6 then m.foldl (eu p) (bF l)else bF l
theorem QM (t:PL)(k:Nat):(qY t k).length≤t.length:=by
 unfold qY;split
 ·exact(List.eraseIdx_sublist _ _).length_le
 ·exact Nat.le_refl _
theorem abP (ht:eY t)(k v:Nat):(gJ t k v).length≤t.length+1:=by
 rw[zC ht]
 split<;>omega
structure pU (t:PL)(n:Nat):Prop where
 oo:eY t
 len:t.length≤n
 v64:∀q∈t,q.2<18446744073709551616
theorem pU.put {v:Nat}(h:pU t n)(hv:v<18446744073709551616):pU (gJ t k v) (n+1):=
 ⟨j6 h.oo k v,by have:=abP h.oo k v;have:=h.len;omega,fun q hq=>by
  rcases(oN h.oo).1 hq with rfl|⟨h1,_⟩
  ·exact hv
  ·exact h.v64 q h1⟩
theorem pU.del (h:pU t n):pU (qY t k) (n+1):=
 ⟨Ba h.oo k,by have:=QM t k;have:=h.len;omega,fun q hq=>h.v64 q ((Nc h.oo).1 hq).1⟩
theorem pU.step (h:pU t n)(hq:q.2<18446744073709551616):pU (eu p t q) (n+1):=by
 unfold eu
 cases hg:aS t q.1 with
 |none=>exact h.put hq
 |some old=>
  have ho:old<18446744073709551616:=h.v64 _ ((gQ h.oo).1 hg);simp only;split
  ·exact h.put (JD ho hq)
  ·exact h.del
theorem Xt {i:Nat}(hq:m[i]?=some q):(m.take (i+1)).foldl (eu p) t=eu p ((m.take i).foldl (eu p) t) q:=by
 rw[List.take_add_one,hq,List.foldl_append];rfl
theorem QN {w:World}{l:PL}{A A':Option Addr}{c c':Nat}(p:Int)(hl:Reads w w.heap.size 2 A l.length (l.flatMap aM))(hm:Reads w w.heap.size 2 A' m.length (m.flatMap aM))(hln:l.length≤1000)(hmn:m.length≤1000)(h64:(∀q∈l,q.2<18446744073709551616)∧∀q∈m,q.2<18446744073709551616)(hW:mg w):
  Calls Tryz.prog 6 #[.slice A l.length c,.slice A' m.length c',.int .i64 p] w fun y w'=>∃v',y= .returned v'∧w'.ownsRow w.heap.size 37 2 v' (l7 p l m).length ((l7 p l m).flatMap aM)∧Below w.heap.size w w':=by
 obtain⟨most,aaM⟩:∃most,most=l.length+m.length:=⟨_,rfl⟩
 have hms:(l.length:Int)+(m.length:Int)=(most:Int):=by omega
 have hwm:IntKind.i64.wrap (most:Int)=(most:Int):=by rw[IntKind.wrap_i64];omega
 have jS:=qd (Ia most w);have HL:=qd hl;have HM:=qd hm;have HX:=qd (And.intro h64 (And.intro hW aaM));clear hl hm h64 hW aaM;go_in;go_wp2_with fail;refine jS.out.mono ?_;rintro y w1 ⟨rfl,hf1,hb1⟩;obtain⟨fb,iB⟩:∃fb,fb=w.heap.size:=⟨_,rfl⟩;have HF:=qd (show pU (bF (l.take 0)) 0∧∃F,kM w.heap.size w1 fb most F (bF (l.take 0))from⟨⟨List.Pairwise.nil,Nat.le_refl _,fun q hq=>absurd hq List.not_mem_nil⟩,_,by rw[iB];exact hf1⟩);have HB:=qd hb1;rw[←iB];clear hf1 hb1 iB jS hms hwm;go_wp2;go_loopw [24] (fun v24 wr=>∃i:Nat,i≤l.length∧v24= .int .i64 (i:Int)∧Hid (pU (bF (l.take i)) i∧∃F,kM w.heap.size wr fb most F (bF (l.take i)))∧Hid (Below w.heap.size w wr)) (fun v24 _=>l.length-(intOf v24).toNat)
 case atStart=>exact⟨0,by omega,rfl,HF,HB⟩
 case round=>
  clear HF HB;obtain⟨i,hi,rfl,HF,HB⟩:=hrel;by_cases hlt:i<l.length
  ·have hlt':(i:Int)<(l.length:Int):=by omega
   have hi0:(0:Int)≤(i:Int):=by omega
   have hwi:IntKind.i64.wrap ((i:Int)+1)=((i+1:Nat):Int):=by rw[IntKind.wrap_i64];omega
   obtain⟨q,hq⟩:∃q,l[i]?=some q:=⟨_,List.getElem?_eq_getElem hlt⟩;obtain⟨g,off,hA,hgl,hc⟩:=HL.out.2 (by omega);have r0:wr.cell? ⟨g,off+i*2,none⟩=some (.int .u64 (q.1:Int)):=aA HB.out (hc (i*2+0) _ (dS hq (by omega)));have r1:wr.cell? ⟨g,off+i*2+1,none⟩=some (.int .u64 (q.2:Int)):=aA HB.out (hc (i*2+1) _ (dS hq (by omega)));have fZ:=qd (show bF (l.take (i+1))=gJ (bF (l.take i)) q.1 q.2 from by rw[List.take_add_one,hq];exact yQ _ _);have xV:=qd (show pU (gJ (bF (l.take i)) q.1 q.2) (i+1)from HF.out.1.put (HX.out.1.1 q (List.mem_of_getElem? hq)));subst hA;clear hc hq;go_upto_region 5 with fail;refine bU (F:=fun v=>aj v wr.heap.size 37 #[.int .u64 (q.1:Int),.int .u64 (q.2:Int)]∧Below wr.heap.size wr v) ⟨aj.new wr 37 #[.int .u64 (q.1:Int),.int .u64 (q.2:Int)],(Below.refl wr.heap.size wr).alloc (Nat.le_refl _) _⟩ ?_;rintro w6 ⟨jI,hb6⟩;obtain⟨F6,FZ⟩:=HF.out.2;have zu:=qd (FZ.below hb6);have jE:=qd (Ap zu.out (by have:=HF.out.1.len;omega) q.1 q.2 (fun _=>by have:=HF.out.1.len;have:=HX.out.2.2;omega) (by have:=HX.out.2.2;omega));have pV:=qd (HB.out.trans (hb6.mono HB.out.size));obtain⟨bx,hbx⟩:∃bx,bx=wr.heap.size:=⟨_,rfl⟩;rw[←hbx]at jI⊢;obtain⟨x0,x1⟩:=jI.c2;clear jI hb6 hbx FZ HF HB r0 r1;go_wp2_with fail;refine jE.out.mono ?_;rintro y w8 ⟨rfl,F8,Et,rU,wJ⟩;have HF8:=qd (show pU (bF (l.take (i+1))) (i+1)∧∃F,kM w.heap.size w8 fb most F (bF (l.take (i+1)))from by rw[fZ.out];exact⟨xV.out,F8,Et⟩)
   have Jk:=qd (pV.out.trans (wJ.below (fun q hq=>(zu.out.fH q hq).2) pV.out.size));have Cy:=qd (show l.length-(i+1)<l.length-i by omega);clear Et rU wJ jE pV zu;go_wp2;go_roundw
   case measure=>simp[intOf];exact Cy.out
   exact⟨i+1,by omega,rfl,HF8,Jk⟩
  ·obtain rfl:i=l.length:=by omega
   have hlt':¬(l.length:Int)<(l.length:Int):=by omega
   have CK:=HF.out;rw[List.take_of_length_le (Nat.le_refl _)]at CK;have AP:=qd CK;have CO:=qd (wR p wr (HX.out.2.1.below HB.out));clear CK HF;go_wp2_with fail;refine CO.out.mono ?_;rintro y wq ⟨rfl,rfl⟩;by_cases hp:1≤p∧p≤6
   ·have hne:(⟨(jG p).toArray⟩:ByteArray).toList.isEmpty=false:=by
     rw[ByteArray.toList_eq];unfold jG;rw[if_pos hp]
     have:p=1∨p=2∨p=3∨p=4∨p=5∨p=6:=by omega
     rcases this with rfl|rfl|rfl|rfl|rfl|rfl<;>rfl
    have hall:l7 p l m=m.foldl (eu p) (bF l):=by unfold l7;rw[if_pos hp]
    have Sk:=qd hall;obtain⟨sw,hsw⟩:∃sw:ByteArray,sw=⟨(jG p).toArray⟩:=⟨_,rfl⟩;rw[←hsw]at hne⊢;have HG:=qd (show pU ((m.take 0).foldl (eu p) (bF l)) (l.length+0)∧∃F,kM w.heap.size wr fb most F ((m.take 0).foldl (eu p) (bF l))from AP.out);clear hsw hall hp AP CO;go_wp2;go_loopw [42] (fun v42 wr=>∃i:Nat,i≤m.length∧v42= .int .i64 (i:Int)∧Hid (pU ((m.take i).foldl (eu p) (bF l)) (l.length+i)∧∃F,kM w.heap.size wr fb most F ((m.take i).foldl (eu p) (bF l)))∧Hid (Below w.heap.size w wr)) (fun v42 _=>m.length-(intOf v42).toNat)
    case atStart=>exact⟨0,by omega,rfl,HG,HB⟩
    case round=>
     clear HG HB;obtain⟨i,hi,rfl,HG,HB⟩:=hrel;by_cases hlt:i<m.length
     ·have hlt':(i:Int)<(m.length:Int):=by omega
      have hi0:(0:Int)≤(i:Int):=by omega
      have hwi:IntKind.i64.wrap ((i:Int)+1)=((i+1:Nat):Int):=by rw[IntKind.wrap_i64];omega
      obtain⟨q,hq⟩:∃q,m[i]?=some q:=⟨_,List.getElem?_eq_getElem hlt⟩;obtain⟨g,off,hA,hgl,hc⟩:=HM.out.2 (by omega);have r0:wr.cell? ⟨g,off+i*2,none⟩=some (.int .u64 (q.1:Int)):=aA HB.out (hc (i*2+0) _ (dS hq (by omega)));have r1:wr.cell? ⟨g,off+i*2+1,none⟩=some (.int .u64 (q.2:Int)):=aA HB.out (hc (i*2+1) _ (dS hq (by omega)));have hqv:=HX.out.1.2 q (List.mem_of_getElem? hq);obtain⟨t,ht⟩:∃t,t=(m.take i).foldl (eu p) (bF l):=⟨_,rfl⟩;rw[←ht]at HG;have fZ:=qd (show(m.take (i+1)).foldl (eu p) (bF l)=eu p t q from by rw[ht];exact Xt hq);have xV:=qd (show pU (eu p t q) (l.length+(i+1))from HG.out.1.step hqv);have HQv:=qd hqv;have mP:=qd (show t.length≤2000∧t.length<most∧most≤100000 from by have:=HG.out.1.len;have:=HX.out.2.2;omega);subst hA;clear hc hq ht hqv;go_upto_region 12 with fail;refine bU (F:=fun v=>aj v wr.heap.size 37 #[.int .u64 (q.1:Int),.int .u64 (q.2:Int)]∧Below wr.heap.size wr v) ⟨aj.new wr 37 #[.int .u64 (q.1:Int),.int .u64 (q.2:Int)],(Below.refl wr.heap.size wr).alloc (Nat.le_refl _) _⟩ ?_;rintro w6 ⟨jI,hb6⟩;obtain⟨F6,FZ⟩:=HG.out.2;have zu:=qd (FZ.below hb6);have pV:=qd (HB.out.trans (hb6.mono HB.out.size));have yM:=qd HG.out.1;have HGt:=qd (Vh zu.out (by have:=mP.out;omega) q.1);obtain⟨bx,hbx⟩:∃bx,bx=wr.heap.size:=⟨_,rfl⟩;have jH:=qd (show bx∉F6 from fun hh=>by have:=(FZ.fH bx hh).1;omega);rw[←hbx]at jI⊢;have CP:=qd jI;obtain⟨x0,x1⟩:=jI.c2;clear jI hb6 hbx FZ HG HB r0 r1;go_wp2_with fail;refine HGt.out.mono ?_;rintro y w7 ⟨rfl,mZ⟩
      have LW:=qd (zu.out.below mZ);have zw:=qd (pV.out.trans (mZ.mono pV.out.size));have Xu:=CP.out.below mZ CP.out.lt;obtain⟨x0,x1⟩:=Xu.c2;have Cy:=qd (show m.length-(i+1)<m.length-i by omega)
      have xq:=qd (fun(w8:World) (hto:Gh w.heap.size w7 w8 fb most F6 (eu p t q))=>show(pU ((m.take (i+1)).foldl (eu p) (bF l)) (l.length+(i+1))∧∃F,kM w.heap.size w8 fb most F ((m.take (i+1)).foldl (eu p) (bF l)))∧Below w.heap.size w w8 from by
       obtain⟨F8,Et,_,wJ⟩:=hto;rw[fZ.out]
       exact⟨⟨xV.out,F8,Et⟩,zw.out.trans (wJ.below (fun q hq=>(LW.out.fH q hq).2) zw.out.size)⟩)
      clear mZ Xu zu pV HGt;cases hg:aS t q.1
      case' none=>
       have hst:eu p t q=gJ t q.1 q.2:=by unfold eu;rw[hg]
       rw[hst]at xq;have jE:=qd (Ap LW.out (by have:=mP.out;omega) q.1 q.2 (fun _=>mP.out.2.1) mP.out.2.2);simp only[Option.getD_none,Option.isSome_none];clear hst hg fZ xV yM;go_wp2_with fail;refine jE.out.mono ?_;rintro y w8 ⟨rfl,hto⟩;have HD:=qd (xq.out w8 hto);clear hto xq jE
      case' some old=>
       have ho:old<18446744073709551616:=yM.out.v64 _ ((gQ yM.out.oo).1 hg);obtain⟨vv,hvv⟩:∃vv,vv=qw p old q.2:=⟨_,rfl⟩;have PK:=fun(W:World)=>Iw p old q.2 ho HQv.out W;rw[←hvv]at PK
       have hst:eu p t q=if xQ p then gJ t q.1 vv else qY t q.1:=by unfold eu;rw[hg,hvv]
       simp only[Option.getD_some,Option.isSome_some];cases hs:xQ p
       case' true=>
        rw[hs]at PK hst;simp only[if_true]at hst;rw[hst]at xq;have qL:=qd PK;have jE:=qd (Ap LW.out (by have:=mP.out;omega) q.1 vv (fun _=>mP.out.2.1) mP.out.2.2);clear hst hg fZ xV yM PK hvv ho hs;go_wp2_with fail;refine(qL.out _).mono ?_;rintro y wq ⟨rfl,rfl⟩;go_wp2_with fail;refine jE.out.mono ?_;rintro y w8 ⟨rfl,hto⟩;have HD:=qd (xq.out w8 hto);clear hto xq jE qL
       case' false=>
        rw[hs]at PK hst;simp only[Bool.false_eq_true,if_false]at hst;rw[hst]at xq;have qL:=qd PK;have HDl:=qd (VI LW.out (by have:=mP.out;omega) q.1);clear hst hg fZ xV yM PK hvv ho hs;go_wp2_with fail;refine(qL.out _).mono ?_;rintro y wq ⟨rfl,rfl⟩;go_wp2_with fail;refine HDl.out.mono ?_;rintro y w8 ⟨rfl,hto⟩;have HD:=qd (xq.out w8 hto);clear hto xq HDl qL
      all_goals
       go_wp2;go_roundw
       case measure=>simp[intOf];exact Cy.out
       exact⟨i+1,by omega,rfl,HD.out.1,HD.out.2⟩
     ·obtain rfl:i=m.length:=by omega
      have hlt':¬(m.length:Int)<(m.length:Int):=by omega
      have hG:=HG.out;rw[List.take_of_length_le (Nat.le_refl _),←Sk.out]at hG;obtain⟨F,hF⟩:=hG.2;have nJ:=qd (BG hF (by have:=hG.1.len;omega));clear hG hF HG;go_wp2_with fail;refine nJ.out.mono ?_;rintro y w4 ⟨v,rfl,fO,hb4⟩;have HFin:=qd (show w4.ownsRow w.heap.size 37 2 v (l7 p l m).length ((l7 p l m).flatMap aM)∧Below w.heap.size w w4 from⟨yL fO HB.out.size,HB.out.trans (hb4.mono HB.out.size)⟩);clear fO hb4 nJ HB;go_wp2;go_ret;exact⟨_,rfl,HFin.out⟩
   ·have hall:l7 p l m=bF l:=by unfold l7;rw[if_neg hp]
    have Sk:=qd hall
    have hwd:jG p=[]:=by unfold jG;rw[if_neg hp]
    rw[hwd];obtain⟨F,hF⟩:=AP.out.2;have nJ:=qd (BG hF (by have:=AP.out.1.len;omega));clear hall hwd hp hF CO AP;go_wp2_with fail;refine nJ.out.mono ?_;rintro y w4 ⟨v,rfl,fO,hb4⟩;have HFin:=qd (show w4.ownsRow w.heap.size 37 2 v (l7 p l m).length ((l7 p l m).flatMap aM)∧Below w.heap.size w w4 from⟨by rw[Sk.out];exact yL fO HB.out.size,HB.out.trans (hb4.mono HB.out.size)⟩);clear fO hb4 nJ HB;go_wp2;go_ret;exact⟨_,rfl,HFin.out⟩
end
def kV (x d m:Int):Int:=bits .or .u64 (bits .and .u64 (x/d) m) (IntKind.u64.wrap (bits .and .u64 x m*d))
def Na (x:Int):Int:=bits .or .u64 (kV (kV x 256 71777214294589695) 65536 281470681808895/4294967296) (IntKind.u64.wrap (kV (kV x 256 71777214294589695) 65536 281470681808895*4294967296))
def PN (x:Int):Int:=Na (kV (kV (kV x 2 6148914691236517205) 4 3689348814741910323) 16 1085102592571150095)
def tL (x:Int):Nat→Int×Int
 |0=>(x,14695981039346656037)
 |i+1=>((tL x i).1/256,IntKind.u64.wrap (bits .xor .u64 (tL x i).2 (bits .and .u64 (tL x i).1 255)*1099511628211))
def PO (kind:Nat)(x:Int):Int:=
 match kind with
 |0=>x
 |1=>0
 |2=>IntKind.u64.wrap (x*11400714819323198485)
 |3=>(tL x 8).2
 |4=>PN x
 |_=>IntKind.u64.wrap (x*288230376151711744)
def fE (kind key:Nat):Nat:=if key<18446744073709551616 then(PO kind key).toNat else 0
theorem abQ (kind key:Nat)(hk:key<18446744073709551616):0≤PO kind key∧PO kind key<18446744073709551616:=by
 have hw:=fun z:Int=>wrap_within .u64 z;have hb:=fun(o:BinOp) (a b:Int)=>bits_within o .u64 a b
 have e1:IntKind.u64.min=0:=by decide
 have e2:IntKind.u64.max=18446744073709551615:=by decide
 rw[e1,e2]at hw hb;unfold PO;split
 ·omega
 ·omega
 ·have:=hw ((key:Int)*11400714819323198485);omega
 ·have:=hw (bits .xor .u64 (tL key 7).2 (bits .and .u64 (tL key 7).1 255)*1099511628211);show 0≤(tL key 8).2∧(tL key 8).2<_;rw[show(tL key 8).2=IntKind.u64.wrap (bits .xor .u64 (tL key 7).2 (bits .and .u64 (tL key 7).1 255)*1099511628211)from rfl];omega
 ·have:=hb .or (kV (kV (kV (kV (kV key 2 6148914691236517205) 4 3689348814741910323) 16 1085102592571150095) 256 71777214294589695) 65536 281470681808895/4294967296) (IntKind.u64.wrap (kV (kV (kV (kV (kV key 2 6148914691236517205) 4 3689348814741910323) 16 1085102592571150095) 256 71777214294589695) 65536 281470681808895*4294967296));unfold PN Na;omega
 ·have:=hw ((key:Int)*288230376151711744);omega
theorem Sl (kind key:Nat)(hk:key<18446744073709551616):((fE kind key:Nat):Int)=PO kind key∧fE kind key<18446744073709551616:=by
 have:=abQ kind key hk;unfold fE;rw[if_pos hk];omega
theorem J4 (kind key:Nat):fE kind key<18446744073709551616:=by
 by_cases hk:key<18446744073709551616
 ·exact(Sl kind key hk).2
 ·unfold fE;rw[if_neg hk];decide
theorem Xv (x:Int)(w:World):
  Calls Tryz.prog 92 #[.int .u64 x] w fun y w'=>y= .returned (.int .u64 (Na x))∧w=w':=by
 unfold Na kV;go_in;go_wp2;go_ret;exact⟨rfl,rfl⟩
theorem adu (x:Int)(w:World):
  Calls Tryz.prog 65 #[.int .u64 x] w fun y w'=>y= .returned (.int .u64 (PN x))∧w=w':=by
 have HR:=qd (fun(z:Int) (W:World)=>Xv z W);obtain⟨r,hr⟩:∃r,r=PN x:=⟨_,rfl⟩;have HE:=qd hr;rw[←hr];clear hr;go_in;go_wp2_with fail;refine(HR.out _ _).mono ?_;rintro y wq ⟨rfl,rfl⟩;go_wp2;go_ret;exact⟨by rw[HE.out];rfl,rfl⟩
theorem abR (x:Int)(w:World):
  Calls Tryz.prog 64 #[.int .u64 x] w fun y w'=>y= .returned (.int .u64 (tL x 8).2)∧w=w':=by
 obtain⟨S,hS⟩:∃S,S=tL x:=⟨_,rfl⟩
 have h0:(S 0).1=x∧(S 0).2=14695981039346656037:=by rw[hS];exact⟨rfl,rfl⟩
 have H0:=qd h0;have HS:=qd (show∀i,(S (i+1)).1=(S i).1/256∧(S (i+1)).2=IntKind.u64.wrap (bits .xor .u64 (S i).2 (bits .and .u64 (S i).1 255)*1099511628211)from fun i=>by rw[hS];exact⟨rfl,rfl⟩);rw[←hS];clear hS h0;go_in;go_wp2;go_loopw [0,3,4] (fun v0 v3 v4 wr=>∃i:Nat,i≤8∧v4= .int .i64 (i:Int)∧v0= .int .u64 (S i).1∧v3= .int .u64 (S i).2∧w=wr) (fun _ _ v4 _=>8-(intOf v4).toNat)
 case atStart=>exact⟨0,by omega,rfl,by rw[H0.out.1],by rw[H0.out.2],rfl⟩
 case round=>
  obtain⟨i,hi,rfl,rfl,rfl,rfl⟩:=hrel;by_cases hlt:i<8
  ·have hlt':(i:Int)<8:=by omega
   have hwi:IntKind.i64.wrap ((i:Int)+1)=((i+1:Nat):Int):=by rw[IntKind.wrap_i64];omega
   go_wp2;go_roundw
   case measure=>simp[intOf];omega
   exact⟨i+1,by omega,rfl,by rw[(HS.out i).1],by rw[(HS.out i).2],trivial⟩
  ·obtain rfl:i=8:=by omega
   go_wp2;go_ret;exact⟨rfl,rfl⟩
theorem Xw (kind key:Nat)(hk:key<18446744073709551616)(h5:kind≤5)(w:World):
  Calls Tryz.prog 40 #[.int .i64 (kind:Int),.int .u64 (key:Int)] w fun y w'=>y= .returned (.tuple #[.int .u64 (fE kind key:Int),.nilIface])∧w=w':=by
 have HF:=qd (fun(W:World)=>abR key W);have HR:=qd (fun(W:World)=>adu key W);have he:=(Sl kind key hk).1;obtain⟨r,hr⟩:∃r:Int,r=(fE kind key:Int):=⟨_,rfl⟩;rw[←hr];rw[←hr]at he;clear hr
 have hc:kind=0∨kind=1∨kind=2∨kind=3∨kind=4∨kind=5:=by omega
 rcases hc with rfl|rfl|rfl|rfl|rfl|rfl
 ·have HE:=qd he;clear he;go_in;go_wp2;refine bodyPost_ret (v:= .tuple #[.int .u64 (key:Int),.nilIface]) (by simp[results,Tryz.results40,go_sem]) rfl ⟨by rw[HE.out];rfl,rfl⟩
 ·have HE:=qd he;clear he;go_in;go_wp2;refine bodyPost_ret (v:= .tuple #[.int .u64 0,.nilIface]) (by simp[results,Tryz.results40,go_sem]) rfl ⟨by rw[HE.out];rfl,rfl⟩
 ·have HE:=qd he;clear he;go_in;go_wp2;refine bodyPost_ret (v:= .tuple #[.int .u64 (IntKind.u64.wrap ((key:Int)*11400714819323198485)),.nilIface]) (by simp[results,Tryz.results40,go_sem]) rfl ⟨by rw[HE.out];rfl,rfl⟩
 ·have HE:=qd he;clear he;go_in;go_wp2_with fail;refine(HF.out _).mono ?_;rintro y wq ⟨rfl,rfl⟩;go_wp2;refine bodyPost_ret (v:= .tuple #[.int .u64 (tL key 8).2,.nilIface]) (by simp[results,Tryz.results40,go_sem]) rfl ⟨by rw[HE.out];rfl,rfl⟩
 ·have HE:=qd he;clear he;go_in;go_wp2_with fail;refine(HR.out _).mono ?_;rintro y wq ⟨rfl,rfl⟩;go_wp2;refine bodyPost_ret (v:= .tuple #[.int .u64 (PN key),.nilIface]) (by simp[results,Tryz.results40,go_sem]) rfl ⟨by rw[HE.out];rfl,rfl⟩
 ·have HE:=qd he;clear he;go_in;go_wp2;refine bodyPost_ret (v:= .tuple #[.int .u64 (IntKind.u64.wrap ((key:Int)*288230376151711744)),.nilIface]) (by simp[results,Tryz.results40,go_sem]) rfl ⟨by rw[HE.out];rfl,rfl⟩
end Go.Proofs.YtbfpfgfgfjhpfaaGreatDoor
