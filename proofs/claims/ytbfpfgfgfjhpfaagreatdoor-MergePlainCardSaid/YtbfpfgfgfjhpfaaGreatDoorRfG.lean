/- amblerref26.Func: Put, whatever the key. No statement of the claim. -/
import Derived.Test.YtbfpfgfgfjhpfaaGreatDoorRfB
import Derived.Test.YtbfpfgfgfjhpfaaGreatDoorPlA
import Derived.Test.YtbfpfgfgfjhpfaaGreatDoorSq
import Derived.Test.YtbfpfgfgfjhpfaaGreatDoorCoX
namespace Go.Proofs.YtbfpfgfgfjhpfaaGreatDoor
set_option maxRecDepth 100000
set_option maxHeartbeats 8000000
open Go.RowKit dP zW
section
variable {w : World} {l : PL} {M c d fb : Nat} {A B : Option Addr}
theorem pX {b b' n sz:Nat}{t:TypeId}{v:Value}{xs:List Value}(h:w.ownsRow b t sz v n xs)(hb:b'≤b):w.ownsRow b' t sz v n xs:=
 ⟨h.1,h.2.imp id fun⟨g,cap,cur,h1,h2,h3⟩=>⟨g,cap,cur,h1,Nat.le_trans hb h2,h3⟩⟩
theorem XO {i:Nat}{q:Nat×Nat}(val:Nat)(h:l[i]?=some q):(l.set i (q.1,val)).map kC=l.map kC:=by
 rw[List.map_set];refine List.ext_getElem? fun j=> ?_;by_cases hj:j=i
 ·subst hj;have hl:=(List.getElem?_eq_some_iff.1 h).1;rw[List.getElem?_set_self (by simpa using hl),List.getElem?_map,h];rfl
 ·rw[List.getElem?_set_ne (fun e=>hj e.symm)]
theorem Ey (hB:aj w fb 57 #[.int .i64 (M:Int),.slice A l.length c,.slice B l.length d])(hR:Reads w w.heap.size 1 A l.length (l.map kC))(hV:Reads w w.heap.size 1 B l.length (l.map vC))(h9:l.length≤1000)(key val:Nat){q0:Nat×Nat}(hq0:q0∈l)(hk0:q0.1=key):
  Calls Tryz.prog 18 #[.pointer (some ⟨fb,0,none⟩),.int .u64 (key:Int),.int .u64 (val:Int)] w fun e w'=>e= .returned (.int .i64 0)∧∃i q B' d',l[i]?=some q∧q.1=key∧(∀k,k<i→∀q',l[k]?=some q'→q'.1≠key)∧aj w' fb 57 #[.int .i64 (M:Int),.slice A l.length c,.slice B' l.length d']∧w'.ownsRow w.heap.size 35 1 (.slice B' l.length d') l.length ((l.set i (q.1,val)).map vC)∧Mod [fb] w w':=by
 have HF:=qd (ES hB hR h9 key);have hlt:=hB.lt;have HB:=qd hB;have P6:=(Below.refl w.heap.size w).alloc (Nat.le_refl _) (.cells #[] 35);have hoN:=Nt w w.heap.size 35 1 (Nat.le_refl _);have hVA:=(hV.below P6).more (Nat.le_of_lt (by simp:w.heap.size<(w.alloc (.cells #[] 35)).heap.size));have c2:=hB.cell 2;simp only[gl]at c2;have c2A:=(P6.cell hlt).trans c2;clear hB hR hV;go_in;go_wp2_with fail;refine HF.out.mono ?_;rintro x wq ⟨y,rfl,hfp,rfl⟩;clear HF
 obtain⟨i,q,hi,hk,rfl,hno⟩:∃(i:Nat) (q:Nat×Nat),l[i]?=some q∧q.1=key∧y=(i:Int)∧∀k,k<i→∀q',l[k]?=some q'→q'.1≠key:=by
  rcases hfp with⟨i,q,h1,h2,h3,h4⟩|⟨h1,_⟩
  ·exact⟨i,q,h1,h2,h3,h4⟩
  ·exact absurd hk0 (h1 q0 hq0)
 have hin:=(List.getElem?_eq_some_iff.1 hi).1;obtain⟨n,hn⟩:∃n,n=l.length:=⟨_,rfl⟩;have HI:=qd (And.intro hi (And.intro hk hno))
 have hvs:(l.map vC).length=l.length:=by simp
 have hfin:∀(w4:World) (g c4:Nat),w4.ownsRow w.heap.size 35 1 (.slice (some ⟨g,0,none⟩) (0+n) c4) (0+n) ([]++l.map vC)→Below w.heap.size w w4→w.heap.size≤g→aj (((w4.setCell ⟨g,i,none⟩ (.int .u64 (val:Int))).setCell ⟨fb,2,none⟩ (.slice (some ⟨g,0,none⟩) n c4))) fb 57 #[.int .i64 (M:Int),.slice A l.length c,.slice (some ⟨g,0,none⟩) l.length c4]∧((w4.setCell ⟨g,i,none⟩ (.int .u64 (val:Int))).setCell ⟨fb,2,none⟩ (.slice (some ⟨g,0,none⟩) n c4)).ownsRow w.heap.size 35 1 (.slice (some ⟨g,0,none⟩) l.length c4) l.length ((l.set i (q.1,val)).map vC)∧Mod [fb] w ((w4.setCell ⟨g,i,none⟩ (.int .u64 (val:Int))).setCell ⟨fb,2,none⟩ (.slice (some ⟨g,0,none⟩) n c4)):=by
  intro w4 g c4 ho hb hg;rw[Nat.zero_add,List.nil_append]at ho;obtain⟨h1,h2⟩:=Fz (i:=i) ho (.int .u64 (val:Int))
  have hne:fb∉[g]:=by simp;omega
  have h3:=((HB.out.below hb hlt).mod h2 hne).ak 2 (.slice (some ⟨g,0,none⟩) n c4);simp only[pt]at h3;have h5:=yN h1 ((Mod.refl [fb] _).sl 2 (.slice (some ⟨g,0,none⟩) n c4)) (by simpa using hlt);refine⟨by rw[hn]at h3⊢;exact h3, ?_, ?_⟩
  ·rw[List.map_set];rw[hn]at h5⊢;exact h5
  ·exact(Mod.of_below (hb.trans (h2.below (fun k hk=>by rw[List.mem_singleton.1 hk];exact hg) hb.size)) [fb]).ak (.inl (by simp)) 2 _
 have HFin:=qd hfin
 have hn9:n≤1000:=by omega
 rw[←hn]at hVA c2A hin hvs
 have hi0:(0:Int)≤(i:Int):=by omega
 have hil:(i:Int)<(n:Int):=by omega
 have HN:=qd hn;clear hfp hi hk hno hfin hn h9 c2 hq0 hk0;go_wp2_with (go_loud (at_builtin;refine Bt (by rfl) (by rfl) iy hoN (by rfl) (by rfl) hVA (PY l) (by omega) (by simp) ?_;intro v4 w4 fO hg4;obtain⟨A4,c4,rfl⟩:=aU fO;obtain⟨g,rfl,hgl,hgb,hgc,hfz⟩:=Ao fO (by omega);have HO4:=qd fO;have P7:=qd (P6.trans hg4.below);have fz:=hfz i;have hne:¬g=fb:=(by omega);have hne':¬fb=g:=(by omega);have e2:=aA P7.out (show w.cell? ⟨fb,2,none⟩=some (.slice B n d)from by have:=HB.out.cell 2;simpa[HN.out]using this);have f2:=(HB.out.below P7.out hlt).frozen 2;have r0:w4.cell? ⟨g,i,none⟩=((l.map vC)[i]?):=(by obtain⟨b',o',h1,_,h3⟩:=(Reads.eO fO).2 (by omega);cases h1;have:=h3 i;rw[List.nil_append]at this;cases hx:(l.map vC)[i]? with|none=>rw[List.getElem?_eq_none_iff]at hx;omega|some u=>have:=this u hx;simpa using this);rw[List.getElem?_eq_getElem (by omega)]at r0;clear fO hg4 hfz));refine bodyPost_ret (v:= .int .i64 0) (by simp[results,Tryz.results18,go_sem]) rfl ⟨rfl,i,q,some ⟨g,0,none⟩,c4,HI.out.1,HI.out.2.1,HI.out.2.2, ?_⟩;have hF:=HFin.out w4 g c4 HO4.out P7.out hgb;exact hF
theorem F7 (hB:aj w fb 57 #[.int .i64 (M:Int),.slice A l.length c,.slice B l.length d])(hR:Reads w w.heap.size 1 A l.length (l.map kC))(h9:l.length≤1000)(key val:Nat)(hk:∀q∈l,q.1≠key)(hM:M≤l.length):
  Calls Tryz.prog 18 #[.pointer (some ⟨fb,0,none⟩),.int .u64 (key:Int),.int .u64 (val:Int)] w fun e w'=>e= .returned (.int .i64 2)∧Below w.heap.size w w':=by
 have HF:=qd (ES hB hR h9 key);obtain⟨n,hn⟩:∃n,n=l.length:=⟨_,rfl⟩
 have hM':(M:Int)≤(n:Int):=by omega
 rw[←hn]at hB;obtain⟨c0,c1⟩:=hB.c2;clear hB hR hn h9 hM;go_in;go_wp2_with fail;refine HF.out.mono ?_;rintro x wq ⟨y,rfl,hfp,rfl⟩;clear HF
 obtain rfl:y= -1:=by
  rcases hfp with⟨i,q,hi,hq,_⟩|⟨_,h⟩
  ·exact absurd hq (hk q (List.mem_of_getElem? hi))
  ·exact h
 clear hfp hk;go_wp2;go_region;go_wp2;go_ret;exact⟨rfl,(Below.refl _ _).drew⟩
end
section
variable {M base fb key n val : Nat} {l : PL} {w w' : World} {v : Value} {xs : List Value} {t : TypeId} {cs : Array Value}
def gU (M:Nat)(l:PL)(key val:Nat):PL:=match l.findIdx? (fun p=>p.1==key)with
 |some i=>l.set i (key,val)
 |none=>if M≤l.length then l else l++[(key,val)]
theorem xu {i:Nat}{q:Nat×Nat}(h:l[i]?=some q)(hk:q.1=key)(hn:∀k,k<i→∀q',l[k]?=some q'→q'.1≠key):gU M l key val=l.set i (key,val):=by
 have hl:=(List.getElem?_eq_some_iff.1 h).1
 have hf:l.findIdx? (fun p=>p.1==key)=some i:=by
  rw[List.findIdx?_eq_some_iff_getElem];refine⟨hl, ?_,fun j hj=> ?_⟩
  ·have:l[i]=q:=(List.getElem?_eq_some_iff.1 h).2;simp[this,hk]
  ·have:=hn j hj l[j] (List.getElem?_eq_getElem (by omega));simpa using this
 unfold gU;rw[hf]
theorem zx (hk:∀q∈l,q.1≠key):gU M l key val=if M≤l.length then l else l++[(key,val)]:=by
 have hf:l.findIdx? (fun p=>p.1==key)=none:=by
  rw[List.findIdx?_eq_none_iff];intro x hx;simpa using hk x hx
 unfold gU;rw[hf]
theorem XP:35 ≠57 :=by decide
theorem EU {q:Nat}(h:w.ownsRow base 35 1 v n xs)(hB:aj w q t cs)(ht:35 ≠t):∀g,v.ownBlock=some g→g≠q:=by
 intro g hg RG;rcases h.2 with⟨rfl,_⟩|⟨g',cap,cur,rfl,_,hh,_⟩
 ·cases hg
 ·obtain rfl:g'=g:=by simpa[Value.ownBlock]using hg
  rw[RG]at hh;have:=hh.symm.trans hB
  injection this with this
  injection this with _ h2 _
  exact ht h2
theorem uN {S:List Nat}{sz:Nat}(h:w.ownsRow base t sz v n xs)(hm:Mod S w w')(hS:∀g,v.ownBlock=some g→g∉S):w'.ownsRow base t sz v n xs:=by
 refine⟨h.1, ?_⟩;rcases h.2 with k|⟨g,cap,cur,rfl,k2,k3,k4⟩
 ·exact .inl k
 ·refine .inr ⟨g,cap,cur,rfl,k2, ?_,k4⟩;rw[hm.block g (Array.getElem?_eq_some_iff.1 k3).1 (hS g (by simp[Value.ownBlock]))];exact k3
theorem oI.mod {q:Nat}(h:oI w base fb M l)(hm:Mod [q] w w')(hq:fb≠q)(hB:aj w q t cs)(ht:35 ≠t):oI w' base fb M l:=by
 obtain⟨A,c,B,d,h1,h2,h3⟩:=h;exact⟨A,c,B,d,h1.mod hm (by simpa using hq),uN h2 hm (fun g hg=>by simpa using EU h2 hB ht g hg),uN h3 hm (fun g hg=>by simpa using EU h3 hB ht g hg)⟩
theorem oI.below (h:oI w base fb M l)(hb:Below w.heap.size w w'):oI w' base fb M l:=by
 obtain⟨A,c,B,d,h1,h2,h3⟩:=h;exact⟨A,c,B,d,h1.below hb h1.lt,own_below h2 hb (Nat.le_refl _),own_below h3 hb (Nat.le_refl _)⟩
theorem adB (h:oI w base fb M l)(hb:base≤w.heap.size)(h9:l.length≤1000)(key val:Nat):
  Calls Tryz.prog 18 #[.pointer (some ⟨fb,0,none⟩),.int .u64 (key:Int),.int .u64 (val:Int)] w fun e w'=>∃r:Int,e= .returned (.int .i64 r)∧oI w' base fb M (gU M l key val)∧Mod [fb] w w':=by
 obtain⟨A,c,B,d,h1,h2,h3⟩:=h;have hR:=Reads.eO h2;have hV:=Reads.eO h3;by_cases hx:∃q∈l,q.1=key
 ·obtain⟨q0,hq0,hk0⟩:=hx;refine(Ey h1 hR hV h9 key val hq0 hk0).mono ?_;rintro y w' ⟨rfl,i,q,B',d',hi,hk,hno,g1,g2,g3⟩;refine⟨0,rfl, ?_,g3⟩;rw[xu hi hk hno]
  have hq:(key,val)=(q.1,val):=by rw[hk]
  rw[hq];have hl:(l.set i (q.1,val)).length=l.length:=List.length_set;refine⟨A,c,B',d',by rw[hl];exact g1, ?_,by rw[hl];exact pX g2 hb⟩;rw[hl,XO val hi];exact uN h2 g3 (fun g hg=>by simpa using EU h2 h1 XP g hg)
 ·have hk:∀q∈l,q.1≠key:=fun q hq e=>hx ⟨q,hq,e⟩;rw[zx hk];by_cases hM:M≤l.length
  ·rw[if_pos hM];refine(F7 h1 hR h9 key val hk hM).mono ?_;rintro y w' ⟨rfl,g1⟩;exact⟨2,rfl,⟨A,c,B,d,h1.below g1 h1.lt,own_below h2 g1 (Nat.le_refl _),own_below h3 g1 (Nat.le_refl _)⟩,Mod.of_below g1 _⟩
  ·rw[if_neg hM];refine(Jm h1 hR hV h9 key val hk (by omega)).mono ?_;rintro y w' ⟨rfl,⟨A',c',B',d',g1,g2,g3⟩,g4⟩;exact⟨0,rfl,⟨A',c',B',d',g1,pX g2 hb,pX g3 hb⟩,g4⟩
theorem Sv (h:oI w base fb M l)(h9:l.length≤1000)(key:Nat):
  Calls Tryz.prog 23 #[.pointer (some ⟨fb,0,none⟩),.int .u64 (key:Int)] w fun e w'=>e= .returned (.tuple #[.int .u64 (((aS l key).getD 0:Nat):Int),.bool (aS l key).isSome])∧w=w':=by
 obtain⟨A,c,B,d,h1,h2,h3⟩:=h;exact ady h1 (Reads.eO h2) (Reads.eO h3) h9 key
end
section
variable {w w' : World} {M base fb : Nat} {F : List Nat} {l : PL}
def zy (w:World)(base fb M:Nat)(F:List Nat)(l:PL):Prop:=(∃A c B d,aj w fb 57 #[.int .i64 (M:Int),.slice A l.length c,.slice B l.length d]∧w.ownsRow base 35 1 (.slice A l.length c) l.length (l.map kC)∧w.ownsRow base 35 1 (.slice B l.length d) l.length (l.map vC)∧(∀g,(Value.slice A l.length c).ownBlock=some g→g∉F)∧∀g,(Value.slice B l.length d).ownBlock=some g→g∉F)∧fb∉F∧base≤fb
theorem zy.at_ (h:zy w base fb M F l):oI w base fb M l:=by
 obtain⟨⟨A,c,B,d,h1,h2,h3,_⟩,_⟩:=h;exact⟨A,c,B,d,h1,h2,h3⟩
theorem zy.lt (h:zy w base fb M F l):fb<w.heap.size:=by
 obtain⟨⟨A,c,B,d,h1,_⟩,_⟩:=h;exact h1.lt
theorem zy.below (h:zy w base fb M F l)(hb:Below w.heap.size w w'):zy w' base fb M F l:=by
 obtain⟨⟨A,c,B,d,h1,h2,h3,h4⟩,h5⟩:=h;exact⟨⟨A,c,B,d,h1.below hb h1.lt,own_below h2 hb (Nat.le_refl _),own_below h3 hb (Nat.le_refl _),h4⟩,h5⟩
theorem XQ {b t sz n q:Nat}{u:Value}{xs:List Value}(h:w.ownsRow b t sz u n xs)(hq:u.ownBlock=some q):q<w.heap.size:=(ET h hq).2
theorem zy.mod {F':List Nat}(h:zy w base fb M F l)(hm:Mod F w w')(hF:∀q∈F',q∈F∨w.heap.size≤q):zy w' base fb M F' l:=by
 have hlt:=h.lt;obtain⟨⟨A,c,B,d,h1,h2,h3,h4,h5⟩,h6,h7⟩:=h;refine⟨⟨A,c,B,d,h1.mod hm h6,uN h2 hm h4,uN h3 hm h5,fun g hg P8=> ?_,fun g hg P8=> ?_⟩,fun P8=> ?_,h7⟩
 ·rcases hF g P8 with k|k
  ·exact h4 g hg k
  ·exact absurd (XQ h2 hg) (Nat.not_lt.2 k)
 ·rcases hF g P8 with k|k
  ·exact h5 g hg k
  ·exact absurd (XQ h3 hg) (Nat.not_lt.2 k)
 ·rcases hF fb P8 with k|k
  ·exact h6 k
  ·omega
theorem abY (h:zy w base fb M F l)(hb:base≤w.heap.size)(hF:∀q∈F,q<w.heap.size)(h9:l.length≤1000)(key val:Nat):
  Calls Tryz.prog 18 #[.pointer (some ⟨fb,0,none⟩),.int .u64 (key:Int),.int .u64 (val:Int)] w fun e w'=>∃r:Int,e= .returned (.int .i64 r)∧zy w' base fb M F (gU M l key val)∧Mod [fb] w w':=by
 obtain⟨⟨A,c,B,d,h1,h2,h3,h4,h5⟩,h6,h7⟩:=h;have hR:=Reads.eO h2;have hV:=Reads.eO h3;have hnew:∀{w':World} {n:Nat} {v:Value} {xs:List Value},w'.ownsRow w.heap.size 35 1 v n xs→∀g,v.ownBlock=some g→g∉F:=fun ho g hg P8=>absurd (hF g P8) (Nat.not_lt.2 (ET ho hg).1);by_cases hx:∃q∈l,q.1=key
 ·obtain⟨q0,hq0,hk0⟩:=hx;refine(Ey h1 hR hV h9 key val hq0 hk0).mono ?_;rintro y w' ⟨rfl,i,q,B',d',hi,hk,hno,g1,g2,g3⟩;refine⟨0,rfl,⟨?_,h6,h7⟩,g3⟩;rw[xu hi hk hno]
  have hq:(key,val)=(q.1,val):=by rw[hk]
  rw[hq];have hl:(l.set i (q.1,val)).length=l.length:=List.length_set;refine⟨A,c,B',d',by rw[hl];exact g1, ?_,by rw[hl];exact pX g2 hb,by rw[hl];exact h4,by rw[hl];exact hnew g2⟩;rw[hl,XO val hi];exact uN h2 g3 (fun g hg=>by simpa using EU h2 h1 XP g hg)
 ·have hk:∀q∈l,q.1≠key:=fun q hq e=>hx ⟨q,hq,e⟩;rw[zx hk];by_cases hM:M≤l.length
  ·rw[if_pos hM];refine(F7 h1 hR h9 key val hk hM).mono ?_;rintro y w' ⟨rfl,g1⟩;exact⟨2,rfl,⟨⟨A,c,B,d,h1.below g1 h1.lt,own_below h2 g1 (Nat.le_refl _),own_below h3 g1 (Nat.le_refl _),h4,h5⟩,h6,h7⟩,Mod.of_below g1 _⟩
  ·rw[if_neg hM];refine(Jm h1 hR hV h9 key val hk (by omega)).mono ?_;rintro y w' ⟨rfl,⟨A',c',B',d',g1,g2,g3⟩,g4⟩;exact⟨0,rfl,⟨⟨A',c',B',d',g1,pX g2 hb,pX g3 hb,hnew g2,hnew g3⟩,h6,h7⟩,g4⟩
theorem yO (M:Nat)(l:PL)(key val:Nat):(gU M l key val).length≤l.length+1:=by
 unfold gU;split
 ·rw[List.length_set];omega
 ·split
  ·omega
  ·rw[List.length_append,List.length_singleton];omega
def gG (M:Nat)(l:PL):PL:=l.foldl (fun t q=>gU M t q.1 q.2) []
theorem XR (M:Nat)(l:PL)(q:Nat×Nat):gG M (l++[q])=gU M (gG M l) q.1 q.2:=by
 unfold gG;rw[List.foldl_append];rfl
theorem rE (M:Nat)(l:PL):(gG M l).length≤l.length:=by
 have:∀(l t:PL),(l.foldl (fun t q=>gU M t q.1 q.2) t).length≤t.length+l.length:=by
  intro l
  induction l with
  |nil=>intro t;simp
  |cons q l ih=>
   intro t;rw[List.foldl_cons,List.length_cons];have h1:=ih (gU M t q.1 q.2);have h2:=yO M t q.1 q.2;omega
 simpa[gG]using this l []
end
theorem Ck (l:PL):(bF l).length≤l.length:=by
 have:∀(l t:PL),eY t→(l.foldl (fun t p=>gJ t p.1 p.2) t).length≤t.length+l.length:=by
  intro l
  induction l with
  |nil=>intro t _;simp
  |cons p l ih=>
   intro t ht;have h1:=ih (gJ t p.1 p.2) (j6 ht p.1 p.2);rw[zC ht]at h1;rw[List.foldl_cons,List.length_cons]
   split at h1<;>omega
 simpa[bF]using this l [] List.Pairwise.nil
def Both (w0 w:World)(fb rb:Nat)(l:PL):Prop:=∃F,kM w0.heap.size w fb 200 F (bF l)∧zy w w0.heap.size rb 200 F (gG 200 l)∧Below w0.heap.size w0 w
theorem AZ {w:World}{l:PL}{A:Option Addr}{c:Nat}(hl:Reads w w.heap.size 2 A l.length (l.flatMap aM))(hn:l.length≤100):
  Calls Tryz.prog 5 #[.slice A l.length c] w fun y w'=>∃fb rb,y= .returned (.tuple #[.pointer (some ⟨fb,0,none⟩),.pointer (some ⟨rb,0,none⟩)])∧Both w w' fb rb l:=by
 have HL:=qd hl;have jS:=qd (Ia 200 w);clear hl;go_in;go_wp2_with fail;refine jS.out.mono ?_;rintro y w3 ⟨rfl,hf3,hb3⟩;obtain⟨fb,iB⟩:∃fb,fb=w.heap.size:=⟨_,rfl⟩;have HF3:=qd (show kM w.heap.size w3 fb 200 [fb] (bF (l.take 0))from by rw[iB];exact hf3);have HB3:=qd hb3;rw[←iB];clear hf3 hb3 iB jS;go_upto_region 2 with fail;refine bU (F:=fun v=>aj v w3.heap.size 57 #[.int .i64 200,.slice none 0 0,.slice none 0 0]∧Below w3.heap.size w3 v) ⟨aj.new w3 57 #[.int .i64 200,.slice none 0 0,.slice none 0 0],(Below.refl w3.heap.size w3).alloc (Nat.le_refl _) _⟩ ?_;rintro w4 ⟨hB4,hb4⟩;obtain⟨rb,hrb⟩:∃rb,rb=w3.heap.size:=⟨_,rfl⟩;rw[←hrb]at hB4⊢
 have qL:=qd (show Both w w4 fb rb (l.take 0)from by
  refine⟨[fb],HF3.out.below hb4,⟨⟨none,0,none,0,hB4,⟨rfl,.inl ⟨rfl,rfl⟩⟩,⟨rfl,.inl ⟨rfl,rfl⟩⟩,(fun g hg=>by cases hg),(fun g hg=>by cases hg)⟩, ?_, ?_⟩,HB3.out.trans (hb4.mono HB3.out.size)⟩
  ·have:=(HF3.out.fH fb (by simp)).1;simp;omega
  ·have:=HB3.out.size
   omega)
 clear hB4 hb4 hrb HF3 HB3;go_wp2;go_loopw [13] (fun v13 wr=>∃i:Nat,i≤l.length∧v13= .int .i64 (i:Int)∧Hid (Both w wr fb rb (l.take i))) (fun v13 _=>l.length-(intOf v13).toNat)
 case atStart=>exact⟨0,by omega,rfl,qL⟩
 case round=>
  clear qL;obtain⟨i,hi,rfl,qL⟩:=hrel;by_cases hlt:i<l.length
  ·have hlt':(i:Int)<(l.length:Int):=by omega
   have hi0:(0:Int)≤(i:Int):=by omega
   have hwi:IntKind.i64.wrap ((i:Int)+1)=((i+1:Nat):Int):=by rw[IntKind.wrap_i64];omega
   obtain⟨p,hp⟩:∃p,l[i]?=some p:=⟨_,List.getElem?_eq_getElem hlt⟩;obtain⟨g,off,hA,hgl,hc⟩:=HL.out.2 (by omega);obtain⟨F,hF,hU,hbr⟩:=qL.out;have r0:wr.cell? ⟨g,off+i*2,none⟩=some (.int .u64 (p.1:Int)):=aA hbr (hc (i*2+0) _ (dS hp (by omega)));have r1:wr.cell? ⟨g,off+i*2+1,none⟩=some (.int .u64 (p.2:Int)):=aA hbr (hc (i*2+1) _ (dS hp (by omega)));have fZ:=qd (show bF (l.take (i+1))=gJ (bF (l.take i)) p.1 p.2∧gG 200 (l.take (i+1))=gU 200 (gG 200 (l.take i)) p.1 p.2 from by rw[List.take_add_one,hp];exact⟨yQ _ _,XR _ _ _⟩);have hal:=Ck (l.take i);have har:=rE 200 (l.take i);rw[List.length_take]at hal har;have iC:=qd (show(bF (l.take i)).length≤100∧(gG 200 (l.take i)).length≤1000 by omega);have HX:=qd (And.intro hF (And.intro hU hbr));subst hA;clear hc hp hal har hF hU hbr qL;go_upto_region 5 with fail;refine bU (F:=fun v=>aj v wr.heap.size 37 #[.int .u64 (p.1:Int),.int .u64 (p.2:Int)]∧Below wr.heap.size wr v) ⟨aj.new wr 37 #[.int .u64 (p.1:Int),.int .u64 (p.2:Int)],(Below.refl wr.heap.size wr).alloc (Nat.le_refl _) _⟩ ?_;rintro w6 ⟨jI,hb6⟩;have hX6:kM w.heap.size w6 fb 200 F (bF (l.take i))∧zy w6 w.heap.size rb 200 F (gG 200 (l.take i))∧Below w.heap.size w w6:=⟨HX.out.1.below hb6,HX.out.2.1.below hb6,HX.out.2.2.trans (hb6.mono HX.out.2.2.size)⟩;have CP:=qd hX6;have jE:=qd (Ap hX6.1 (by have:=iC.out.1;omega) p.1 p.2 (fun _=>by have:=iC.out.1;omega) (by omega));obtain⟨bx,hbx⟩:∃bx,bx=wr.heap.size:=⟨_,rfl⟩;rw[←hbx]at jI⊢;obtain⟨x0,x1⟩:=jI.c2;have jH:=qd jI
   have FI:=qd (show bx∉F from fun hq=>by have:=(HX.out.1.fH bx hq).1;omega);clear hX6 jI hb6 hbx HX r0 r1;go_wp2_with fail;refine jE.out.mono ?_;rintro y w8 ⟨rfl,F8,Et,rU,wJ⟩;have adC:=CP.out.1.fH;have hU8:=CP.out.2.1.mod wJ rU;have mK:=CP.out.2.2.trans (wJ.below (fun q hq=>(adC q hq).2) CP.out.2.2.size);have hB8:=jH.out.mod wJ FI.out;have Sw:=qd (And.intro Et (And.intro hU8 mK));have HRu:=qd (abY hU8 mK.size (fun q hq=>(Et.fH q hq).1) iC.out.2 p.1 p.2);clear x0 x1;obtain⟨x0,x1⟩:=hB8.c2;clear Et rU wJ adC hU8 mK hB8 jE CP jH FI;go_wp2_with fail;refine HRu.out.mono ?_;rintro y w9 ⟨r,rfl,hU9,hm9⟩
   have CS:=qd (show Both w w9 fb rb (l.take (i+1))from by
    refine⟨F8, ?_,by rw[fZ.out.2];exact hU9,Sw.out.2.2.trans (hm9.below (fun q hq=>by rw[List.mem_singleton.1 hq];exact Sw.out.2.1.2.2) Sw.out.2.2.size)⟩;rw[fZ.out.1]
    exact Sw.out.1.mod hm9 (fun q hq' hq=>by
     have e:=List.mem_singleton.1 hq';subst e
     exact Sw.out.2.1.2.1 hq))
   have HM:=qd (show l.length-(i+1)<l.length-i by omega);clear hU9 hm9 HRu Sw x0 x1;go_wp2;go_roundw
   case measure=>simp[intOf];exact HM.out
   exact⟨i+1,by omega,rfl,CS⟩
  ·obtain rfl:i=l.length:=by omega
   have hlt':¬(l.length:Int)<(l.length:Int):=by omega
   have hB:=qL.out;rw[List.take_of_length_le (Nat.le_refl _)]at hB;have HB:=qd hB;clear hB qL;go_wp2;refine bodyPost_ret (v:= .tuple #[.pointer (some ⟨fb,0,none⟩),.pointer (some ⟨rb,0,none⟩)]) (by simp[results,Tryz.results5,go_sem]) rfl ⟨fb,rb,rfl,HB.out⟩
theorem aad (w:World):
  Calls Tryz.prog 9 #[] w fun y w'=>∃g,y= .returned (.slice (some ⟨g,0,none⟩) 7 7)∧(∀k,k<7→w'.cell? ⟨g,k,none⟩=some (.string ⟨(oK.getD k []).toArray⟩))∧Below w.heap.size w w':=by
 obtain⟨cs,hcs⟩:∃cs:Array Value,cs=(oK.map fun s=>Value.string ⟨s.toArray⟩).toArray:=⟨_,rfl⟩
 have HFin:=qd (show∀k,k<7→(w.alloc (.cells cs 9)).cell? ⟨w.heap.size,k,none⟩=some (.string ⟨(oK.getD k []).toArray⟩)from fun k hk=>by
  rw[(aj.new w 9 cs).cell k,hcs]
  have:k=0∨k=1∨k=2∨k=3∨k=4∨k=5∨k=6:=by omega
  rcases this with rfl|rfl|rfl|rfl|rfl|rfl|rfl<;>rfl)
 subst hcs;go_in;go_wp2;refine bodyPost_ret (v:= .slice (some ⟨w.heap.size,0,none⟩) 7 7) (by simp[results,Tryz.results9,go_sem]) rfl ⟨w.heap.size,rfl,HFin.out,(Below.refl _ _).alloc (Nat.le_refl _) _⟩
end Go.Proofs.YtbfpfgfgfjhpfaaGreatDoor
