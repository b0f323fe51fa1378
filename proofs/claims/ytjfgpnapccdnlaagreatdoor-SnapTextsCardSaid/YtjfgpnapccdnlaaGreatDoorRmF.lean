/- The map as a function of keys, whatever the hashes. No statement of the claim. -/
import Derived.Test.YtjfgpnapccdnlaaGreatDoorRmK
import Derived.Test.YtjfgpnapccdnlaaGreatDoorCoCY
import Derived.Test.YtjfgpnapccdnlaaGreatDoorPlI
import Derived.Test.YtjfgpnapccdnlaaGreatDoorCoCD
import Derived.Test.YtjfgpnapccdnlaaGreatDoorCoDA
import Derived.Test.YtjfgpnapccdnlaaGreatDoorRmI
import Derived.Test.YtjfgpnapccdnlaaGreatDoorKit2
import Derived.Test.YtjfgpnapccdnlaaGreatDoorSqT
import Derived.Test.YtjfgpnapccdnlaaGreatDoorBuilder
namespace Go.Proofs.YtjfgpnapccdnlaaGreatDoor
set_option maxRecDepth 100000
set_option maxHeartbeats 4000000
open Go.RowKit dF
section
variable {es es' : List ay} {key : Nat}
def yP (es:List ay):Nat→Option Nat:=fun k=>(look es k).map ay.val
theorem Ve (es:List ay)(key k:Nat):look (rest es key) k=if k=key then none else look es k:=by
 unfold look rest;rw[List.find?_filter];split
 ·rename_i h;subst h;rw[List.find?_eq_none];intro x _;simp
 ·rename_i h;congr 1;funext x;by_cases hx:x.key=k
  ·simp[hx,h]
  ·simp[hx]
theorem Vf (l:List ay)(e:ay)(k:Nat):look (l++[e]) k=(look l k).or (if e.key=k then some e else none):=by
 unfold look;rw[List.find?_append];congr 1;by_cases h:e.key=k
 ·simp[h]
 ·simp[h]
theorem Ya (hn:(es.map ay.key).Nodup)(key:Nat):(rest es key).length=if(yP es key).isSome then es.length-1 else es.length:=by
 unfold yP
 cases hl:look es key with
 |none=>rw[Mj hl];simp
 |some e=>
  obtain⟨h1,rfl⟩:=yw hl;have hp:=List.perm_cons_erase h1;have h2:=(Mk hn hp).length_eq;rw[h2,List.length_erase_of_mem h1];simp
def noRoom (M:Nat)(o:Option Nat)(n:Nat):Bool:=o.isNone && decide (M≤n)
def Vg (M:Nat)(R:Nat→Option Nat)(n k v:Nat):Nat→Option Nat:=if noRoom M (R k) n then R else fun x=>if x=k then some v else R x
def Vh (M:Nat)(o:Option Nat)(n:Nat):Nat:=if o.isSome||decide (M≤n)then n else n+1
def ahB (R:Nat→Option Nat)(k:Nat):Nat→Option Nat:=fun x=>if x=k then none else R x
def ahC (o:Option Nat)(n:Nat):Nat:=if o.isSome then n-1 else n
theorem abC {M:Nat}:tu M es key=noRoom M (yP es key) es.length:=by
 unfold tu noRoom yP
 cases look es key<;>rfl
theorem acE {M:Nat}{e:ay}(hn:(es.map ay.key).Nodup)(hn':(es'.map ay.key).Nodup)(hp:es'.Perm (Kn M es e)):yP es'=Vg M (yP es) es.length e.key e.val∧es'.length=Vh M (yP es e.key) es.length:=by
 unfold Kn at hp;unfold Vg;rw[abC]at hp;by_cases hf:noRoom M (yP es e.key) es.length=true
 ·rw[if_pos hf]at hp⊢;refine⟨funext fun k=> ?_, ?_⟩
  ·show(look es' k).map ay.val=_;rw[LD hp hn'];rfl
  ·rw[hp.length_eq];unfold noRoom at hf;unfold Vh;rw[Bool.and_eq_true]at hf;rw[hf.2,Bool.or_true,if_pos rfl]
 ·rw[if_neg hf]at hp⊢;refine⟨funext fun k=> ?_, ?_⟩
  ·show(look es' k).map ay.val=_;rw[LD hp hn',Vf,Ve];by_cases hk:k=e.key
   ·rw[if_pos hk,if_pos hk.symm,if_pos hk];rfl
   ·rw[if_neg hk,if_neg (fun h=>hk h.symm),if_neg hk,Option.or_none];rfl
  ·rw[hp.length_eq,List.length_append,Ya hn];unfold noRoom at hf;unfold Vh
   cases hl:yP es e.key with
   |none=>
    rw[hl]at hf;simp only[Option.isNone_none,Bool.true_and]at hf;simp[hf]
   |some v=>
    have:0<es.length:=by
     cases es with
     |nil=>simp[yP,look]at hl
     |cons=>simp
    simp;omega
def pF (W0:World)(E:Nat→Addr)(H:Nat→Nat)(K M I b:Nat)(G:List Nat)(w:World)(R:Nat→Option Nat)(n:Nat)(its:List It)(gv:Nat):Prop:=
 ∃(a:Pool) (ids:List Nat) (gL:bF),nV W0 E H K M I b G w a ids its gv gL∧yP a.ents=R∧a.ents.length=n
def Vi (W0:World)(E:Nat→Addr)(H:Nat→Nat)(K M I b:Nat)(G:List Nat)(w w':World)(R:Nat→Option Nat)(n:Nat)(its:List It)(gv:Nat):Prop:=
 ∃G',pF W0 E H K M I b G' w' R n its gv∧(∀q∈G',q∈G∨w.heap.size≤q)∧Mod G w w'
section
variable {W0 : World} {E : Nat → Addr} {H : Nat → Nat} {K M I b : Nat} {G : List Nat} {w w' : World} {R : Nat → Option Nat} {n : Nat} {its : List It} {gv : Nat}
theorem pF.below (h:pF W0 E H K M I b G w R n its gv)(hb:Below w.heap.size w w'):pF W0 E H K M I b G w' R n its gv:=by
 obtain⟨a,ids,gL,h1,h2⟩:=h;exact⟨a,ids,gL,h1.below hb,h2⟩
theorem pF.iE (h:pF W0 E H K M I b G w R n its gv):∀q∈G,q<w.heap.size∧W0.heap.size≤q:=by
 obtain⟨a,ids,gL,h1,_⟩:=h;exact h1.facts.1
theorem pF.mod {S:List Nat}(h:pF W0 E H K M I b G w R n its gv)(hm:Mod S w w')(hS:∀q∈S,q∉G∧W0.heap.size≤q):pF W0 E H K M I b G w' R n its gv:=by
 obtain⟨a,ids,gL,h1,h2⟩:=h;exact⟨a,ids,gL,h1.mod hm hS,h2⟩
theorem pF.env (h:pF W0 E H K M I b G w R n its gv):Env W0 E w:=by
 obtain⟨a,ids,gL,h1,_⟩:=h;exact h1.facts.2.2.2.2.2.2.2.2.2
theorem Vi.of {a:Pool}{ids:List Nat}{gL:bF}(h:tC W0 E H K M I b G w w' a ids its gv gL)(hR:yP a.ents=R)(hn:a.ents.length=n):Vi W0 E H K M I b G w w' R n its gv:=by
 obtain⟨F,h1,h2,h3⟩:=h;exact⟨F,⟨a,ids,gL,h1,hR,hn⟩,h2,h3⟩
theorem ad2 (H:Nat→Nat)(hE:Env W0 E w)(k m i:Int)(hcf:BO k m i=true)(K M I:Nat)(hkm:(1≤K∧K≤64)∧(1≤M∧M≤192)∧k=(K:Int)∧m=(M:Int)∧i=(I:Int))(Iy:1≤I∧I≤8):Calls Tryz.prog 13 #[kR k m i] w fun y w'=>∃b G,y= .returned (.tuple #[.pointer (some ⟨b,0,none⟩),.nilIface])∧pF W0 E H K M I b G w' (fun _=>none) 0 [] 0∧(∀q∈G,w.heap.size≤q)∧Below w.heap.size w w':=by
 refine(ad1 H hE k m i hcf K M I hkm Iy).mono ?_;rintro y w' ⟨b,G,rfl,h1,h2,h3⟩;exact⟨b,G,rfl,⟨_,_,_,h1,rfl,rfl⟩,h2,h3⟩
theorem ad3 (h:pF W0 E H K M I b G w R n its gv)(e:ay)(he:nu H e):Calls Tryz.prog 14 #[.pointer (some ⟨b,0,none⟩),.int .u64 (e.key:Int),.int .u64 (e.val:Int),.int .u64 (e.hash:Int)] w fun y w'=>
  y= .returned (jO E (if noRoom M (R e.key) n then 2 else 0))∧Vi W0 E H K M I b G w w' (Vg M R n e.key e.val) (Vh M (R e.key) n) its gv:=by
 obtain⟨a,ids,gL,h1,rfl,rfl⟩:=h;refine(adZ h1 e he).mono ?_;rintro y w' ⟨rfl,a',aP,jG,hto,hp,_⟩;obtain⟨F,hF,hs,hm⟩:=hto;have h2:=acE h1.facts.2.1 hF.facts.2.1 hp;exact⟨by unfold uG;rw[abC],F,⟨a',aP,jG,hF,h2.1,h2.2⟩,hs,hm⟩
end
end
section
variable {j key m : Nat} {es : List ay} {e : ay}
def afA (es:List ay)(key:Nat)(y:Int):Prop:=(∃(i:Nat) (e:ay),es[i]?=some e∧e.key=key∧y=(i:Int)∧∀k,k<i→∀e',es[k]?=some e'→e'.key≠key)∨((∀e∈es,e.key≠key)∧y= -1)
end
section
variable {es : List ay} {j key : Nat} {e : ay}
def without (es:List ay)(key j:Nat):List ay:=(es.take j).filter fun x=>x.key !=key
end
section
section
variable {w w' : World} {base mb M : Nat} {es : List ay} {R : List Nat}
end
def cutAt (y:Option ay)(hi:Nat):Option ay:=match y with|none=>none|some m=>if m.hash≤hi then some m else none
end
section
variable {l : List ay} {m : ay} {b base : Nat} {w : World} {v : Value}
def Asc (l:List ay):Prop:=l.Pairwise fun x y=>bA x y=true
theorem Asc.nodup (h:Asc l):l.Nodup:=h.imp fun hxy e=>by rw[e,zS]at hxy;cases hxy
theorem aaT (h:Asc l)(hm:∀e∈l,bA e m=true):Asc (l++[m]):=List.pairwise_append.2 ⟨h,List.pairwise_singleton _ _,fun x hx y hy=>by rw[List.mem_singleton.1 hy];exact hm x hx⟩
def below_ (hs:List Nat)(b:Nat):Nat:=(hs.filter fun h=>decide (h<b)).length
theorem xq (hs:List Nat){a:Nat}(h:a≤b):below_ hs a≤below_ hs b:=by
 unfold below_
 induction hs with
 |nil=>simp
 |cons x l ih=>
  simp only[List.filter_cons];by_cases h1:x<a
  ·rw[if_pos (by simpa using h1),if_pos (by simp;omega)];simp only[List.length_cons];omega
  ·rw[if_neg (by simpa using h1)]
   split<;>(try simp only[List.length_cons])<;>omega
theorem Cg {hs:List Nat}{a x:Nat}(hx:x∈hs)(h1:a≤x)(h2:x<b):below_ hs a+1≤below_ hs b:=by
 obtain⟨s,t,rfl⟩:=List.append_of_mem hx;have g1:=xq s (Nat.le_trans h1 (Nat.le_of_lt h2));have g2:=xq t (Nat.le_trans h1 (Nat.le_of_lt h2));unfold below_ at g1 g2⊢;rw[List.filter_append,List.filter_append,List.filter_cons,List.filter_cons,if_neg (by simp;omega),if_pos (by simp;omega)];simp only[List.length_append,List.length_cons];omega
theorem below_le (hs:List Nat)(b:Nat):below_ hs b≤hs.length:=List.length_filter_le _ _
structure lN (es:List ay)(hs:List Nat)(n:Nat)(out:List ay)(key hash:Nat):Prop where
 yX:Asc out
 mem:∀e,e∈out↔e∈es∧bA e ⟨key,0,hash⟩=true
 cnt:n≤out.length+below_ hs hash
section
variable {es out : List ay} {hs : List Nat} {n key hash hi : Nat}
theorem lN.start (es:List ay)(hs:List Nat):lN es hs 0 [] 0 0:=⟨.nil,fun e=>by simp[bA],Nat.zero_le _⟩
theorem Er {l':List ay}(hn:l.Nodup)(hs:∀x∈l,x∈l'):l.length≤l'.length:=by
 induction l generalizing l' with
 |nil=>exact Nat.zero_le _
 |cons x l ih=>
  rw[List.nodup_cons]at hn;obtain⟨s,t,rfl⟩:=List.append_of_mem (hs x (by simp))
  have h1:=ih (l':=s++t) hn.2 (fun y hy=>by
   have:=hs y (by simp[hy]);simp only[List.mem_append,List.mem_cons]at this⊢;rcases this with h|h|h
   ·exact .inl h
   ·rw[h]at hy;exact absurd hy hn.1
   ·exact .inr h)
  simp only[List.length_append,List.length_cons]at h1⊢;omega
theorem lN.len (h:lN es hs n out key hash):out.length≤es.length:=Er h.yX.nodup (fun e he=>((h.mem e).1 he).1)
theorem lN.few (h:lN es hs n out key hash)(h1:es.length≤192)(h2:hs.length≤32):n≤224:=by
 have:=h.cnt;have:=h.len;have:=below_le hs hash;omega
theorem lN.some_ (h:lN es hs n out key hash)(hn:(es.map ay.key).Nodup)(hm:fP ⟨key,0,hash⟩ (upto es hi) (some m)):lN es hs (n+1) (out++[m]) (m.key+1) m.hash∧(∀e∈out,bA e m=true)∧m.hash≤hi∧m∈es:=by
 obtain⟨m1,m2⟩:=pz.1 hm.1
 have hlt:∀e∈out,bA e m=true:=fun e he=>by
  have h1:=((h.mem e).1 he).2;have h2:=hm.2.1;simp[bA]at h1 h2⊢;omega
 have hh:=Mi hm.2.1;refine⟨⟨aaT h.yX hlt,fun e=>⟨fun he=> ?_,fun he=> ?_⟩, ?_⟩,hlt,m2,m1⟩
 ·rcases List.mem_append.1 he with h1|h1
  ·refine⟨((h.mem e).1 h1).1, ?_⟩;have:=hlt e h1;simp[bA]at this⊢;omega
  ·rw[List.mem_singleton.1 h1];exact⟨m1,by simp[bA]⟩
 ·rw[List.mem_append,List.mem_singleton]
  cases hl:bA e ⟨key,0,hash⟩with
  |true=>exact .inl ((h.mem e).2 ⟨he.1,hl⟩)
  |false=>
   right;have h1:=he.2;have h2:=hm.2.2 e (pz.2 ⟨he.1,by simp[bA]at h1;omega⟩) hl
   have hk:e.key=m.key:=by simp[bA]at h1 h2;omega
   have e1:=lI hn he.1;have e2:=lI hn m1;rw[hk,e2]at e1;exact(Option.some.inj e1).symm
 ·have:=h.cnt;have:=xq hs hh;simp only[List.length_append,List.length_cons,List.length_nil];omega
theorem lN.none_ (h:lN es hs n out key hash)(hm:fP ⟨key,0,hash⟩ (upto es hi) none)(h1:hash≤hi)(h2:hi∈hs):lN es hs (n+1) out 0 (hi+1):=by
 refine⟨h.yX,fun e=>⟨fun he=> ?_,fun he=> ?_⟩, ?_⟩
 ·have:=(h.mem e).1 he;refine⟨this.1, ?_⟩;have h3:=this.2;simp[bA]at h3⊢;omega
 ·have h3:=he.2;exact(h.mem e).2 ⟨he.1,hm e (pz.2 ⟨he.1,by simp[bA]at h3;omega⟩)⟩
 ·have:=h.cnt;have:=Cg (b:=hi+1) h2 h1 (by omega);omega
end
end
section
structure Es where
 st:Nat
 key:Nat
 val:Nat
def Es.zero:Es:=⟨0,0,0⟩
def fZ.passed (c:fZ)(e:ay):Prop:=c.done=true∨bA e ⟨c.key,0,c.hash⟩=true
inductive jZ (es:List ay)(hs:List Nat)(c:fZ):Es→fZ→Prop
 |done (h:c.done=true):jZ es hs c ⟨3,0,0⟩ c
 |yield (h:c.done=false) (hi:Nat) (m:ay) (h1:c.hash≤hi) (h2:hi∈hs) (h3:hi<18446744073709551616) (h4:∀x∈hs,c.hash≤x→hi≤x) (hm:fP ⟨c.key,0,c.hash⟩ (upto es hi) (some m)):jZ es hs c ⟨1,m.key,m.val⟩ (behind m.hash m.key)
 |skip (h:c.done=false) (hi:Nat) (h1:c.hash≤hi) (h2:hi∈hs) (h3:hi<18446744073709551616) (h4:∀x∈hs,c.hash≤x→hi≤x) (hm:fP ⟨c.key,0,c.hash⟩ (upto es hi) none):jZ es hs c ⟨if hi<18446744073709551615 then 2 else 3,0,0⟩ (behind hi 18446744073709551615)
theorem Ms {h k:Nat}(h1:h<18446744073709551616):(behind h k).ok:=by
 unfold behind fZ.ok;split
 ·exact⟨h1,by simp only;omega⟩
 ·split
  ·exact⟨by simp only;omega,by simp⟩
  ·simp
theorem Vj {es:List ay}(hn:(es.map ay.key).Nodup):∀e∈es,∀e'∈es,e.key=e'.key→e=e':=fun e he e' he' hk=>by
 have e1:=lI hn he;have e2:=lI hn he';rw[hk,e2]at e1;exact(Option.some.inj e1).symm
section
variable {es out : List ay} {hs : List Nat} {n : Nat} {c c' c'' : fZ} {i i' : Es}
structure Way (es:List ay)(hs:List Nat)(n:Nat)(out:List ay)(c:fZ):Prop where
 yX:Asc out
 mem:∀e,e∈out↔e∈es∧c.passed e
 cnt:c.done=false→n≤out.length+below_ hs c.hash
 ok:c.ok
theorem Way.start (es:List ay)(hs:List Nat):Way es hs 0 [] ⟨0,0,false⟩:=⟨.nil,fun e=>by simp[fZ.passed,bA],fun _=>Nat.zero_le _,by simp[fZ.ok]⟩
theorem wC {es:List ay}{hash key:Nat}(h1:hash<18446744073709551616)(h2:key<18446744073709551616)(he:∀e∈es,e.hash<18446744073709551616∧e.key<18446744073709551616){e:ay}(h:e∈es):(behind hash key).passed e↔bA e ⟨key+1,0,hash⟩=true:=by
 have:=he e h;unfold behind fZ.passed;split
 ·simp[bA]
 ·split
  ·simp[bA];omega
  ·simp[bA];omega
theorem Way.ad4 (h:Way es hs n out c)(hd:c.done=false):lN es hs n out c.key c.hash:=⟨h.yX,fun e=>by rw[h.mem e];unfold fZ.passed;rw[hd];simp,h.cnt hd⟩
theorem aaU {hash key:Nat}(h:lN es hs n out (key+1) hash)(h1:hash<18446744073709551616)(h2:key<18446744073709551616)(he:∀e∈es,e.hash<18446744073709551616∧e.key<18446744073709551616):Way es hs n out (behind hash key):=by
 refine⟨h.yX,fun e=>⟨fun hh=> ?_,fun hh=> ?_⟩,fun hd=> ?_,Ms h1⟩
 ·obtain⟨g1,g2⟩:=(h.mem e).1 hh;exact⟨g1,(wC h1 h2 he g1).2 g2⟩
 ·exact(h.mem e).2 ⟨hh.1,(wC h1 h2 he hh.1).1 hh.2⟩
 ·have h3:=h.cnt
  have:hash≤(behind hash key).hash:=by
   unfold behind at hd⊢;split
   ·exact Nat.le_refl _
   ·split
    ·exact Nat.le_succ _
    ·rename_i a b;rw[if_neg a,if_neg b]at hd;cases hd
  have:=xq hs this;omega
theorem Way.next (h:Way es hs n out c)(hn:(es.map ay.key).Nodup)(he:∀e∈es,e.hash<18446744073709551616∧e.key<18446744073709551616)(hN:jZ es hs c i c'):
  ∃out',Way es hs (n+1) out' c'∧((i.st=1∧c.done=false∧∃m∈es,out'=out++[m]∧(∀e∈out,bA e m=true)∧¬c.passed m∧i.key=m.key∧i.val=m.val∧c'=behind m.hash m.key)∨(i.st≠1∧out'=out∧i.key=0∧i.val=0∧(i.st=2∨i.st=3)∧(i.st=3↔c'.done=true))):=by
 cases hN with
 |done hd=>exact⟨out,⟨h.yX,h.mem,fun hh=>(by rw[hd]at hh;cases hh),h.ok⟩,.inr ⟨by simp,rfl,rfl,rfl,.inr rfl,by simp[hd]⟩⟩
 |yield hd hi m h1 h2 h3 h4 hm=>
  obtain⟨w1,w2,w3,w4⟩:=(h.ad4 hd).some_ hn hm;have hb:=he m w4;exact⟨out++[m],aaU w1 hb.1 hb.2 he,.inl ⟨rfl,hd,m,w4,rfl,w2,fun hp=>(by rcases hp with hp|hp;rw[hd]at hp;cases hp;have:=hm.2.1;rw[hp]at this;cases this),rfl,rfl,rfl⟩⟩
 |skip hd hi h1 h2 h3 h4 hm=>
  have hcn:=h.cnt hd
  have abD:∀e∈es,((behind hi 18446744073709551615).passed e↔c.passed e):=fun e hh=>by
   rw[wC h3 (by omega) he hh];have hb:=he e hh;unfold fZ.passed;rw[hd];constructor
   ·intro hl;right;exact hm e (pz.2 ⟨hh,by simp[bA]at hl;omega⟩)
   ·rintro(hl|hl)
    ·cases hl
    ·simp[bA]at hl⊢;omega
  refine⟨out,⟨h.yX,fun e=>⟨fun hh=> ?_,fun hh=> ?_⟩,fun hx=> ?_,Ms h3⟩,.inr ⟨?_,rfl,rfl,rfl, ?_, ?_⟩⟩
  ·obtain⟨g1,g2⟩:=(h.mem e).1 hh;exact⟨g1,(abD e g1).2 g2⟩
  ·exact(h.mem e).2 ⟨hh.1,(abD e hh.1).1 hh.2⟩
  ·have hx':hi<18446744073709551615:=by
    unfold behind at hx;rw[if_neg (by omega)]at hx;by_cases hlt:hi<18446744073709551615
    ·exact hlt
    ·rw[if_neg hlt]at hx;cases hx
   have hb:(behind hi 18446744073709551615).hash=hi+1:=by
    unfold behind;rw[if_neg (by omega),if_pos hx']
   rw[hb];have:=Cg (b:=hi+1) h2 h1 (by omega);omega
  ·simp only;split<;>omega
  ·simp only;split<;>simp
  ·unfold behind
   by_cases hlt:hi<18446744073709551615<;>simp[hlt]
theorem Way.few (h:Way es hs n out c)(hd:c.done=false)(hN:jZ es hs c i c'):n<es.length+hs.length:=by
 have h1:=h.cnt hd;have h2:out.length≤es.length:=Er h.yX.nodup (fun e he=>((h.mem e).1 he).1)
 have h3:below_ hs c.hash<hs.length:=by
  have hx:∃hi,c.hash≤hi∧hi∈hs:=by
   cases hN with
   |done h=>rw[hd]at h;cases h
   |yield h hi m h1 h2=>exact⟨hi,h1,h2⟩
   |skip h hi h1 h2=>exact⟨hi,h1,h2⟩
  obtain⟨hi,g1,g2⟩:=hx;have:=Cg (b:=hi+1) g2 g1 (by omega);have:=below_le hs (hi+1);omega
 omega
theorem Way.afB (h:Way es hs n out c)(hn:(es.map ay.key).Nodup)(hd:c.done=true):out.Perm es:=
 (List.perm_ext_iff_of_nodup h.yX.nodup (by
  unfold List.Nodup at hn⊢;rw[List.pairwise_map]at hn
  exact hn.imp fun hxy e=>hxy (by rw[e]))).2 fun e=>⟨fun he=>((h.mem e).1 he).1,fun he=>(h.mem e).2 ⟨he,.inl hd⟩⟩
end
end
section
def zx (i:Es):Value:= .agg #[.int .i64 (i.st:Int),.int .u64 (i.key:Int),.int .u64 (i.val:Int)]
def kJ (its:List It)(id:Nat)(c:fZ):List It:=its.map fun i=>if i.id=id then{i with c:=c} else i
theorem Rw {its:List It}(hn:(its.map It.cb).Nodup){i j:It}(hi:i∈its)(hj:j∈its)(h:i.cb=j.cb):i=j:=by
 induction its with
 |nil=>cases hi
 |cons x l ih=>
  rw[List.map_cons,List.nodup_cons]at hn;rcases List.mem_cons.1 hi with h1|h1
  ·rcases List.mem_cons.1 hj with h2|h2
   ·rw[h1,h2]
   ·exact absurd (show x.cb∈l.map It.cb from by rw[←h1,h];exact List.mem_map_of_mem h2) hn.1
  ·rcases List.mem_cons.1 hj with h2|h2
   ·exact absurd (show x.cb∈l.map It.cb from by rw[←h2,←h];exact List.mem_map_of_mem h1) hn.1
   ·exact ih hn.2 h1 h2
section
variable {w w' : World} {ib mb most given id cb : Nat} {its : List It} {c c' : fZ}
theorem Qv:(kJ its id c).map It.id=its.map It.id:=by
 unfold kJ;rw[List.map_map];apply List.map_congr_left;intro i _;simp only[Function.comp_apply]
 split<;>rfl
theorem aaV:(kJ its id c).map It.cb=its.map It.cb:=by
 unfold kJ;rw[List.map_map];apply List.map_congr_left;intro i _;simp only[Function.comp_apply]
 split<;>rfl
theorem xu:bH ib mb (kJ its id c)=bH ib mb its:=by unfold bH;rw[aaV]
theorem Yb:gZ (kJ its id c)=gZ its:=by
 unfold gZ kJ;rw[List.map_map];apply List.map_congr_left;intro i _;simp only[Function.comp_apply]
 split<;>rfl
theorem gG.setCur (h:gG w ib mb most given its)(hi:⟨id,cb,c⟩∈its)(hc:fB w' cb c'){S:List Nat}(hm:Mod S w w')(hS:∀q∈S,q=cb∨q∉bH ib mb its):gG w' ib mb most given (kJ its id c'):=by
 have hnf:=h.nf;unfold bH at hnf;rw[List.nodup_cons,List.nodup_cons]at hnf;have ad5:cb∈its.map It.cb:=List.mem_map.2 ⟨_,hi,rfl⟩;have h1:ib∉S:=fun hh=>(hS _ hh).elim (fun k=>hnf.1 (by rw[k];exact List.mem_cons_of_mem _ ad5)) (fun k=>k (by simp[bH]));have h2:mb∉S:=fun hh=>(hS _ hh).elim (fun k=>hnf.2.1 (by rw[k];exact ad5)) (fun k=>k (by simp[bH]));refine⟨h.blk.mod hm h1,by rw[Yb];exact h.map.mod hm h2,fun i hi'=> ?_,fun i hi'=> ?_,by rw[Qv];exact h.nd,by rw[xu];exact h.nf,h.few.1,by unfold kJ;rw[List.length_map];exact h.few.2⟩
 ·unfold kJ at hi';obtain⟨j,hj,rfl⟩:=List.mem_map.1 hi';by_cases hid:j.id=id
  ·rw[if_pos hid];have:=yL h.nd hj hi hid;rw[this];exact hc
  ·rw[if_neg hid];refine(h.cur j hj).mod hm (fun hh=>hid ?_);have hcb:j.cb=cb:=(hS _ hh).elim (fun k=>k) (fun k=>absurd (by unfold bH;simp only[List.mem_cons];exact .inr (.inr (List.mem_map_of_mem hj))) k);have hn:(its.map It.cb).Nodup:=hnf.2.2;exact congrArg It.id (Rw hn hj hi hcb)
 ·have:i.id∈its.map It.id:=by rw[←Qv (id:=id) (c:=c')];exact List.mem_map_of_mem hi'
  obtain⟨j,hj,hji⟩:=List.mem_map.1 this;rw[←hji];exact h.ids j hj
end
def tF (W0:World)(E:Nat→Addr)(H:Nat→Nat)(Kk M I b:Nat)(G0:List Nat)(w0:World)(C:iw)(GC:List Nat)(mb gv:Nat)(a:Pool)(ids:List Nat)(its:List It)(id cb:Nat)(c:fZ)(V:World)(it:Es)(w':World):Prop:=
 ∃(c':fZ) (cc:bF) (gU:List Nat),jZ a.ents (jY a) c it c'∧Qr cc∧gq W0 E H Kk M I b G0 w0 C gU mb gv w' a ids (kJ its id c')∧jK W0 E H Kk M C.cb gU w' a ids cc∧(∀q∈gU,q∈GC∨V.heap.size≤q)∧Mod (cb::GC) V w'
section
variable {W0 : World} {E : Nat → Addr} {H : Nat → Nat} {Kk M I b : Nat} {G0 : List Nat} {w0 w : World} {C : iw} {GC : List Nat} {mb gv : Nat} {a : Pool} {ids : List Nat} {its : List It} {id cb : Nat} {c : fZ}
theorem tF.mod {T:List Nat}{V w1 w2:World}{it:Es}(h:tF W0 E H Kk M I b G0 w0 C GC mb gv a ids its id cb c V it w1)(hm:Mod T w1 w2)(hT:∀q∈T,q∉eF b C GC mb its∧w0.heap.size≤q∧q<V.heap.size):
  ∃(c':fZ) (cc:bF) (gU:List Nat),jZ a.ents (jY a) c it c'∧Qr cc∧gq W0 E H Kk M I b G0 w0 C gU mb gv w2 a ids (kJ its id c')∧jK W0 E H Kk M C.cb gU w2 a ids cc∧(∀q∈gU,q∈GC∨V.heap.size≤q)∧Mod (cb::(GC++T)) V w2:=by
 obtain⟨c',cc,gU,h1,h2,h3,h4,h5,h6⟩:=h
 have h7:∀q∈T,q∉gU:=fun q hq hg=>by
  rcases h5 q hg with k|k
  ·exact(hT q hq).1 (aJ.2 (.inr (.inr k)))
  ·have:=(hT q hq).2.2;omega
 refine⟨c',cc,gU,h1,h2,h3.Eo hm (fun q hq=>⟨fun hg=> ?_,(hT q hq).2.1⟩),h4.mod hm (fun q hq=>⟨h7 q hq,Nat.le_trans h3.qz (hT q hq).2.1⟩),h5,(h6.more (fun q hq=>by simp at hq⊢;rcases hq with k|k;exact .inl k;exact .inr (.inl k))).then (hm.more (fun q hq=>by simp;exact .inr (.inr hq)))⟩;rcases aJ.1 hg with k|k|k
 ·exact(hT q hq).1 (aJ.2 (.inl k))
 ·rw[xu]at k;exact(hT q hq).1 (aJ.2 (.inr (.inl k)))
 ·exact h7 q hq k
theorem tF.of {S:List Nat}{V V1 V2:World}{c':fZ}{cc:bF}{gU:List Nat}{it:Es}(h3:gq W0 E H Kk M I b G0 w0 C gU mb gv V1 a ids its)(h4:jK W0 E H Kk M C.cb gU V1 a ids cc)(h5:∀q∈gU,q∈GC∨V.heap.size≤q)(h6:Mod GC V V1)(hi:⟨id,cb,c⟩∈its)(h1:jZ a.ents (jY a) c it c')(h2:Qr cc)(hc:fB V2 cb c')(hm:Mod S V1 V2)(hS:∀q∈S,q=cb∨(q∉eF b C gU mb its∧w0.heap.size≤q∧V.heap.size≤q)):tF W0 E H Kk M I b G0 w0 C GC mb gv a ids its id cb c V it V2:=by
 have hcb:cb∈bH C.ib mb its:=by
  unfold bH;simp only[List.mem_cons,List.mem_map];exact .inr (.inr ⟨_,hi,rfl⟩)
 refine⟨c',cc,gU,h1,h2,h3.aaQ (h3.ou.setCur hi hc hm (fun q hq=>(hS q hq).elim .inl (fun k=> .inr (fun g=>k.1 (aJ.2 (.inr (.inl g))))))) hm (fun q hq=>(hS q hq).elim (fun k=> .inl (k▸hcb)) (fun k=> .inr ⟨k.1,k.2.1⟩)) (fun q hq=>by rw[xu]at hq;exact .inl hq),h4.mod hm (fun q hq=> ?_),h5,h6.trans hm (fun q hq _=>List.mem_cons_of_mem _ hq) (fun q hq hl=> ?_)⟩
 ·rcases hS q hq with k|k
  ·rw[k];exact⟨h3.apart.2.2 _ hcb,h3.b0.2 _ hcb⟩
  ·exact⟨fun g=>k.1 (aJ.2 (.inr (.inr g))),Nat.le_trans h3.qz k.2.1⟩
 ·rcases hS q hq with k|k
  ·rw[k];simp
  ·omega
theorem gq.ad6 (h:gq W0 E H Kk M I b G0 w0 C GC mb gv w a ids its):∀e∈a.ents,e.hash<18446744073709551616∧e.key<18446744073709551616:=fun e he=>by
 obtain⟨i,N,h1,h2⟩:=o8.1 he;have h3:=((h.core.facts.2.2.2.2.2.1 i N h1).hash e h2).1;exact⟨h3.h64,h3.k64⟩
end
theorem acF {W0:World}{E:Nat→Addr}{H:Nat→Nat}{Kk M I b:Nat}{G0:List Nat}{w0 w:World}{C:iw}{GC:List Nat}{mb gv:Nat}{a:Pool}{ids:List Nat}{its:List It}{id cb:Nat}{c:fZ}(hS:gq W0 E H Kk M I b G0 w0 C GC mb gv w a ids its)(hi:⟨id,cb,c⟩∈its)(hd:c.done=false)(hok:c.ok):Calls Tryz.prog 72 #[.pointer (some ⟨b,0,none⟩),.pointer (some ⟨cb,0,none⟩)] w fun y w'=>∃it,y= .returned (.tuple #[zx it,.nilIface])∧tF W0 E H Kk M I b G0 w0 C GC mb gv a ids its id cb c w it w':=by
 have hst:=hS;have hB:=(Below.refl w.heap.size w).alloc (Nat.le_refl _) (.cells #[.int .i64 0,.int .u64 0,.int .u64 0] 102);have hR:=aj.new w 102 #[.int .i64 0,.int .u64 0,.int .u64 0];obtain⟨W,hW⟩:∃W,W=w.alloc (.cells #[.int .i64 0,.int .u64 0,.int .u64 0] 102):=⟨_,rfl⟩;rw[←hW]at hB hR;have SX:=(hS.ou.cur _ hi).mod (Mod.of_below hB []) (by simp);have HS:=qd (hS.below hB);have HR:=qd hR;have HB:=qd hB;have HW:=qd hW;have HI:=qd hi;have HCu:=qd SX;have dX:=qd hS.ad6;have HD:=qd hd;have Le:=qd hok;have HNf:=qd (show w.heap.size∉eF b C GC mb its from fun hg=>by have:=(hS.iE _ hg).1;omega);have HW0:=qd (show w0.heap.size≤w.heap.size from hS.mod.size);have Pe:=qd (show w.heap.size∉GC from fun hg=>by have:=(hS.iE _ (aJ.2 (.inr (.inr hg)))).1;omega);have SY:=qd (show w.heap.size≠cb from fun e=>by have:cb<w.heap.size:=(hS.ou.cur _ hi).lt;omega);clear hst hB hR hW hS SX hi hd hok;go_in;go_upto_region 1 with fail;rw[←HW.out];go_wp2_with fail;refine(X4 HCu.out).mono ?_;rintro y W1 ⟨rfl,hb⟩;replace HS:=qd (HS.out.below hb);replace HR:=qB hb HR;replace HB:=qd (bP hb HB.out);clear hb HCu;have hbk:=HS.out.blk.blk;unfold iw.cells at hbk;have c3:=hbk.cell 3;simp only[gl]at c3;have hle:=X3 HS.out.core c.key c.hash Le.out.1;unfold bU at hle;have sN:=qd hle;clear hbk hle;go_wp2_with fail;refine sN.out.mono ?_;rintro y W2 ⟨o,hg,cc,gU,rfl,Yc,hcc,hct,hsu,hmo⟩;have hs2:=HS.out.abA hct.at_ hsu hmo
 have HRn:=qd (show w.heap.size∉gU from fun hg=>(hsu _ hg).elim Pe.out (fun k=>by have:=HR.out.lt;omega));have HQ:=qd (show Mod GC w W2 from(Mod.of_below HB.out GC).then hmo);replace HR:=qd (HR.out.mod hmo Pe.out);replace HS:=qd hs2;have yN:=qd hct;have zy:=qd Yc;have HCc:=qd hcc;have AY:=qd (show∀q∈gU,q∈GC∨w.heap.size≤q from fun q hq=>(hsu q hq).elim .inl (fun k=> .inr (by have:=HB.out.size;omega)));have HCb:=qd (show cb<W2.heap.size from(hs2.ou.cur _ HI.out).lt);clear hs2 hct Yc hcc hsu hmo sN c3;obtain⟨e0,he0⟩:∃e0:ay,e0=o.getD ⟨0,0,0⟩:=⟨_,rfl⟩;rw[←he0];have HE0:=qd he0;clear he0;unfold aW;go_upto_region 3 with fail;refine dQ 148 #[.int .u64 (e0.key:Int),.int .u64 (e0.val:Int),.int .u64 (e0.hash:Int)] ?_;rintro W3 ⟨hX,hb⟩;replace HS:=qd (HS.out.below hb);replace yN:=qd (yN.out.below hb);replace HR:=qB hb HR;replace HQ:=qd (HQ.out.then (Mod.of_below hb GC));have HX:=qd hX;obtain⟨xb,hxb⟩:∃xb,xb=W2.heap.size:=⟨_,rfl⟩;rw[←hxb]at HX⊢
 have hxr:xb≠cb:=fun e=>by have:=HCb.out;omega
 have HXc:=qd hxr;clear hX hb hxb hxr
 have Mt:=qd (show w.heap.size∉eF b C gU mb its from fun hg=>by
  rcases aJ.1 hg with k|k|k
  ·exact HNf.out (aJ.2 (.inl k))
  ·exact HNf.out (aJ.2 (.inr (.inl k)))
  ·exact HRn.out k)
 have hxc:xb∉[cb]:=fun hh=>HXc.out (List.mem_singleton.1 hh);have hrc:w.heap.size∉[cb]:=fun hh=>SY.out (List.mem_singleton.1 hh);have HXm:=qd hxc;have HRm:=qd hrc;clear hxc hrc
 cases o with
 |some m=>
  obtain rfl:e0=m:=HE0.out;have hmm:=zy.out.2.2.2.2.1;have Kh:=qd (dX.out e0 (pz.1 hmm).1);have iG:=qd zy.out.2.2.2.2.2.1;have Et:=qd (fun V (hV:fB V cb c)=>Rt hV HD.out e0 Kh.out.2 Kh.out.1 iG.out);unfold aW at Et;have jg:=qd (jZ.yield HD.out hg e0 zy.out.1 zy.out.2.2.1 zy.out.2.1 zy.out.2.2.2.1 zy.out.2.2.2.2);clear hmm;go_upto_region 4 with fail;have S9:=HX.out.cell 0;have Ta:=HX.out.cell 1;have Tc:=HX.out.cell 2;simp only[gl]at S9 Ta Tc;refine rT (fun(w':World)=>w'.cell? ⟨xb,0,none⟩=some (.int .u64 (e0.key:Int))∧w'.cell? ⟨xb,1,none⟩=some (.int .u64 (e0.val:Int))∧w'.cell? ⟨xb,2,none⟩=some (.int .u64 (e0.hash:Int))) [8] ?_;have hHeld:=(⟨S9,Ta,Tc⟩:_∧_∧_);refine vW 0 rfl ?_;refine vT 1 rfl ?_;refine vW 2 rfl ?_;refine vT 3 rfl ?_;refine vW 4 rfl ?_;refine vW 5 rfl ?_;refine vT 6 rfl ?_;refine nT 7 rfl fun K hK=> ?_;go_simp;refine(Et.out _ ((HS.out.ou.cur _ HI.out).mod (Mod.of_below (Below.refl W3.heap.size W3).drew []) (by simp))).mono ?_;rintro y W4 ⟨rfl,hc4,kD⟩;replace kD:Mod [cb] W3 W4:=(Mod.of_below (Below.refl W3.heap.size W3).drew [cb]).then kD;replace HR:=qd (HR.out.mod kD HRm.out);have kH:=qd hc4;have Fu:=qd kD;replace HX:=qd (HX.out.mod kD HXm.out);clear hc4 kD Et S9 Ta Tc;have S9:=HX.out.cell 0;have Ta:=HX.out.cell 1;have Tc:=HX.out.cell 2;simp only[gl]at S9 Ta Tc;go_wp2_with fail;have hHeld:=(⟨S9,Ta,Tc⟩:_∧_∧_);refine kO hK ?_;clear hK K;refine nT 8 rfl fun K hK=> ?_;have r:=HR.out.c3;obtain⟨f0,f1,f2⟩:=HR.out.f3
  have hnw:=((HR.out.ak 0 (.int .i64 1)).ak 1 (.int .u64 (e0.key:Int))).ak 2 (.int .u64 (e0.val:Int));have jC:=(((Mod.refl [w.heap.size] W4).ak (b:=w.heap.size) (.inl (by simp)) 0 (.int .i64 1)).ak (b:=w.heap.size) (.inl (by simp)) 1 (.int .u64 (e0.key:Int))).ak (b:=w.heap.size) (.inl (by simp)) 2 (.int .u64 (e0.val:Int));simp only[pt]at hnw;have hmt:Mod [cb,w.heap.size] W3 ((((W4).setCell ⟨w.heap.size,0,none⟩ (.int .i64 1)).setCell ⟨w.heap.size,1,none⟩ (.int .u64 (e0.key:Int))).setCell ⟨w.heap.size,2,none⟩ (.int .u64 (e0.val:Int))):=Fu.out.trans jC (fun q hq _=>by simp at hq⊢;exact .inl hq) (fun q hq _=>by simp at hq⊢;exact .inr hq)
  have HF:=qd (tF.of (V:=w) HS.out yN.out AY.out HQ.out HI.out jg.out HCc.out (kH.out.mod jC (fun hh=>SY.out (List.mem_singleton.1 hh).symm)) hmt (fun q hq=>by
   rcases List.mem_cons.1 hq with k|k
   ·exact .inl k
   ·rw[List.mem_singleton.1 k];exact .inr ⟨Mt.out,HW0.out,Nat.le_refl _⟩))
  have mU:=qd hnw;clear hnw jC hmt;go_simp;refine kO hK ?_;clear hK K;refine vL 9 rfl ?_;refine aX (by kernel_rfl) ?_ _;go_wp2;refine bodyPost_ret (v:= .tuple #[.agg #[.int .i64 1,.int .u64 (e0.key:Int),.int .u64 (e0.val:Int)],.nilIface]) (by simp[results,Tryz.results72,go_sem,r.1,r.2.1,r.2.2]) rfl ⟨⟨1,e0.key,e0.val⟩,rfl,HF.out⟩
 |none=>
  have Et:=qd (Ru (HS.out.ou.cur _ HI.out) HD.out hg zy.out.2.1 zy.out.1);have jg:=qd (jZ.skip HD.out hg zy.out.1 zy.out.2.2.1 zy.out.2.1 zy.out.2.2.2.1 zy.out.2.2.2.2);go_wp2_with fail;refine Et.out.mono ?_;rintro y W4 ⟨rfl,hc4,kD⟩;replace HR:=qd (HR.out.mod kD HRm.out);have kH:=qd hc4;have Fu:=qd kD;have HDn:=qd (F9 hc4);clear hc4 kD Et;by_cases hmx:hg<18446744073709551615
  ·have hdn:(behind hg 18446744073709551615).done=false:=by unfold behind;rw[if_neg (by omega),if_pos hmx]
   rw[hdn]at HDn;rw[if_pos hmx]at jg;clear hdn;go_wp2_with fail;refine HDn.out.mono ?_;rintro y W5 ⟨rfl,rfl⟩;clear HDn;have r:=HR.out.c3;obtain⟨f0,f1,f2⟩:=HR.out.f3;have hnw:=((HR.out.ak 0 (.int .i64 2)).ak 1 (.int .u64 0)).ak 2 (.int .u64 0);have jC:=(((Mod.refl [w.heap.size] W4).ak (b:=w.heap.size) (.inl (by simp)) 0 (.int .i64 2)).ak (b:=w.heap.size) (.inl (by simp)) 1 (.int .u64 0)).ak (b:=w.heap.size) (.inl (by simp)) 2 (.int .u64 0);simp only[pt]at hnw;have hmt:Mod [cb,w.heap.size] W3 ((((W4).setCell ⟨w.heap.size,0,none⟩ (.int .i64 2)).setCell ⟨w.heap.size,1,none⟩ (.int .u64 0)).setCell ⟨w.heap.size,2,none⟩ (.int .u64 0)):=Fu.out.trans jC (fun q hq _=>by simp at hq⊢;exact .inl hq) (fun q hq _=>by simp at hq⊢;exact .inr hq)
   have HF:=qd (tF.of (V:=w) HS.out yN.out AY.out HQ.out HI.out jg.out HCc.out (kH.out.mod jC (fun hh=>SY.out (List.mem_singleton.1 hh).symm)) hmt (fun q hq=>by
    rcases List.mem_cons.1 hq with k|k
    ·exact .inl k
    ·rw[List.mem_singleton.1 k];exact .inr ⟨Mt.out,HW0.out,Nat.le_refl _⟩))
   have mU:=qd hnw;clear hnw jC hmt;go_wp2;refine bodyPost_ret (v:= .tuple #[.agg #[.int .i64 2,.int .u64 0,.int .u64 0],.nilIface]) (by simp[results,Tryz.results72,go_sem,r.1,r.2.1,r.2.2]) rfl ⟨⟨2,0,0⟩,rfl,HF.out⟩
  ·have hdn:(behind hg 18446744073709551615).done=true:=by unfold behind;rw[if_neg (by omega),if_neg hmx]
   rw[hdn]at HDn;rw[if_neg hmx]at jg;clear hdn;go_wp2_with fail;refine HDn.out.mono ?_;rintro y W5 ⟨rfl,rfl⟩;clear HDn;have r:=HR.out.c3;obtain⟨f0,f1,f2⟩:=HR.out.f3;have hnw:=((HR.out.ak 0 (.int .i64 3)).ak 1 (.int .u64 0)).ak 2 (.int .u64 0);have jC:=(((Mod.refl [w.heap.size] W4).ak (b:=w.heap.size) (.inl (by simp)) 0 (.int .i64 3)).ak (b:=w.heap.size) (.inl (by simp)) 1 (.int .u64 0)).ak (b:=w.heap.size) (.inl (by simp)) 2 (.int .u64 0);simp only[pt]at hnw;have hmt:Mod [cb,w.heap.size] W3 ((((W4).setCell ⟨w.heap.size,0,none⟩ (.int .i64 3)).setCell ⟨w.heap.size,1,none⟩ (.int .u64 0)).setCell ⟨w.heap.size,2,none⟩ (.int .u64 0)):=Fu.out.trans jC (fun q hq _=>by simp at hq⊢;exact .inl hq) (fun q hq _=>by simp at hq⊢;exact .inr hq)
   have HF:=qd (tF.of (V:=w) HS.out yN.out AY.out HQ.out HI.out jg.out HCc.out (kH.out.mod jC (fun hh=>SY.out (List.mem_singleton.1 hh).symm)) hmt (fun q hq=>by
    rcases List.mem_cons.1 hq with k|k
    ·exact .inl k
    ·rw[List.mem_singleton.1 k];exact .inr ⟨Mt.out,HW0.out,Nat.le_refl _⟩))
   have mU:=qd hnw;clear hnw jC hmt;go_wp2;refine bodyPost_ret (v:= .tuple #[.agg #[.int .i64 3,.int .u64 0,.int .u64 0],.nilIface]) (by simp[results,Tryz.results72,go_sem,r.1,r.2.1,r.2.2]) rfl ⟨⟨3,0,0⟩,rfl,HF.out⟩
end
end Go.Proofs.YtjfgpnapccdnlaaGreatDoor
