/- A function's Pairs, and Same, by their contracts. No statement of the claim. -/
import Derived.Test.YthfgacnlojmmfaaGreatDoorPlD
import Derived.Test.YthfgacnlojmmfaaGreatDoorLaneP
import Derived.Laws.StructEq
import Derived.Test.YthfgacnlojmmfaaGreatDoorCoCS
import Derived.Test.YthfgacnlojmmfaaGreatDoorCoL
import Derived.Test.YthfgacnlojmmfaaGreatDoorCoCD
import Derived.Test.YthfgacnlojmmfaaGreatDoorRmC
import Derived.Test.YthfgacnlojmmfaaGreatDoorRmI
import Derived.Test.YthfgacnlojmmfaaGreatDoorRmK
import Derived.Test.YthfgacnlojmmfaaGreatDoorCoN
namespace Go.Proofs.YthfgacnlojmmfaaGreatDoor
set_option maxRecDepth 100000
set_option maxHeartbeats 4000000
open Go.RowKit Go.Shelf AmC AmL
section
variable {B B' base c c' : Nat} {w : World} {l m : PL} {A A' : Option Addr}
theorem pl_clone {v:Value}(ho:w.ownsRow base 35 2 v l.length (l.flatMap pairC))(hn:l.length≤100000):
  Calls Tryz.prog 35 #[v] w fun y w'=>∃v',y= .returned v'∧w'.ownsRow w.heap.size 35 2 v' l.length (l.flatMap pairC)∧Below w.heap.size w w':=by
 have q22:∀(w:World) (a:Option Addr) (n c n' c':Nat),(binOp .eql 24 (.slice a n c) (.slice none n' c')).run Tryz.prog w= .ok (.bool a.isNone) w:=fun w a n c n' c'=>Lib.run_eql_slice_nil w _ _ a n c n' c' Tryz.underlying24
 have mixed:Tryz.prog.follows Departure.mixedOrders=true:=by kernel_rfl
 rcases ho.2 with⟨rfl,h0⟩|⟨g,cap,cur,rfl,hbg,hh,hcap,hmax,hsz,htk⟩
 ·obtain rfl:l=[]:=List.length_eq_zero_iff.1 h0;clear ho h0 hn;go_in;go_wp2;go_ret;exact⟨_,rfl,World.ownsRow_nil _ _ _ _,Below.refl _ _⟩
 ·obtain⟨i0,hi0,hz0,hz1,hz2⟩:=info_parts info_PlPair;have HI:=qd (And.intro hi0 (And.intro hz0 (And.intro hz1 hz2)))
  have HC:=qd (show∀(w2:World) (o:Obj),w2=w.alloc o→∀(j:Nat) (u:Value),(l.flatMap pairC)[j]?=some u→w2.cell? ((⟨g,0,none⟩:Addr).add j)=some u from by
   rintro w2 o rfl j u hj
   have hadd:(⟨g,0,none⟩:Addr).add j=⟨g,j,none⟩:=by unfold Addr.add;split<;>simp_all
   rw[hadd];refine Lib.cell?_alloc_some _ ?_;show(match w.heap[g]? with|some (.cells cs _ _)=>cs[j]?|_=>none)=_;rw[hh];rw[←htk,List.getElem?_take]at hj;split at hj
   ·simpa using hj
   ·cases hj)
  have H1:=qd (pairC_one l);have HL:=qd (pairC_length l);clear hi0 hz0 hz1 hz2 ho hh htk hsz hmax hbg;go_in;go_wp2_with (at_builtin;refine wpList_append_own _ rfl _ _ 24 rfl w.heap.size 35 i0 _ 2 16 Tryz.underlying24 HI.out.1 HI.out.2.1 HI.out.2.2.1 HI.out.2.2.2 rfl (by omega) _ _ _ rfl (World.ownsRow_made w #[] 0 (Nat.le_refl _) (Nat.zero_le _) (by simp)) ⟨g,0,none⟩ l.length cap (l.flatMap pairC) rfl HL.out (HC.out _ _ rfl) H1.out (by unfold maxLen;omega) (by omega) (by simp) ?_;intro v' w1 hown hgrow hnil;have HP:=qd (show w1.ownsRow w.heap.size 35 2 v' l.length (l.flatMap pairC)∧Below w.heap.size w w1 from⟨by simpa using hown,((Below.refl _ w).alloc (Nat.le_refl _) _).grown hgrow (by simp) (by intro k hk;cases hk;exact Nat.le_refl _)⟩);clear hown hgrow hnil);go_ret;exact⟨_,rfl,HP.out⟩
theorem pl_Pairs {most fb:Nat}{F:List Nat}(h:PlF base w fb most F l)(hn:l.length≤100000):
  Calls Tryz.prog 15 #[.pointer (some ⟨fb,0,none⟩)] w fun y w'=>∃v',y= .returned v'∧w'.ownsRow w.heap.size 35 2 v' l.length (l.flatMap pairC)∧Below w.heap.size w w':=by
 obtain⟨v,hB,ho,rfl,hb,ha⟩:=h;have HC:=qd (pl_clone ho hn);obtain⟨A,c,rfl⟩:=own_form ho;have c1:=hB.cell 1;simp only[gl]at c1;clear hB ho ha;go_in;go_wp2_with fail;refine HC.out.mono ?_;rintro y w1 ⟨v',rfl,h1,h2⟩;have HP:=qd (And.intro h1 h2);clear h1 h2;go_wp2;go_ret;exact⟨_,rfl,HP.out⟩
theorem eq_PlPair (x y:Nat×Nat)(W:World):(Op.equalIn 10000 35 (.agg #[.int .u64 (x.1:Int),.int .u64 (x.2:Int)]) (.agg #[.int .u64 (y.1:Int),.int .u64 (y.2:Int)])).run Tryz.prog W= .ok (decide (x=y)) W:=by
 have hS:Tryz.prog.underlying 35 =some (.struct (Tryz.prog.fieldsOf 35)):=by kernel_rfl
 have hp:Tryz.prog.stoodInHeld 35 =false:=by kernel_rfl
 rw[show(10000:Nat)=9999+1 from rfl,run_equalIn_agg W 9999 35 _ _ hS hp];simp only[Program.fieldsOf,Tryz.underlying35];go_simp
 by_cases h1:x.1=y.1<;>by_cases h2:x.2=y.2<;>simp[h1,h2,Prod.ext_iff]<;>omega
theorem pl_Equal (hl:Reads w B 2 A l.length (l.flatMap pairC))(hm:Reads w B' 2 A' m.length (m.flatMap pairC))(hn:l.length≤100000):
  Calls Tryz.prog 34 #[.slice A l.length c,.slice A' m.length c'] w fun y w'=>y= .returned (.bool (decide (l=m)))∧Below w.heap.size w w':=by
 have hgd:Tryz.prog.eqGuardType Tryz.prog.depth 35 =false:=by kernel_rfl
 by_cases hlen:l.length=m.length
 ·rw[←hlen]at hm⊢;have HL:=qd hl;have HM:=qd hm;have HB:=qd (Below.refl w.heap.size w);have HS:=qd (show∀t,t<0→l[t]?=m[t]? from fun t ht=>by omega);obtain⟨r,hr⟩:∃r,r=decide (l=m):=⟨_,rfl⟩;have HR:=qd hr;rw[←hr];clear hl hm hr;go_in;go_wp2;go_loopw [4,5,13] (fun _ _ v13 wr=>∃i:Nat,i≤l.length∧v13= .int .i64 (i:Int)∧Hid (∀t,t<i→l[t]?=m[t]?)∧Hid (Below w.heap.size w wr)) (fun _ _ v13 _=>l.length-(intOf v13).toNat)
  case atStart=>exact⟨0,by omega,rfl,HS,HB⟩
  case round=>
   clear HB HS;obtain⟨i,hi,rfl,HS,HB⟩:=hrel;by_cases hlt:i<l.length
   ·have hlt':(i:Int)<(l.length:Int):=by omega
    have hi0:(0:Int)≤(i:Int):=by omega
    have hwi:IntKind.i64.wrap ((i:Int)+1)=((i+1:Nat):Int):=by rw[IntKind.wrap_i64];omega
    obtain⟨x,hx⟩:∃x,l[i]?=some x:=⟨_,List.getElem?_eq_getElem hlt⟩;obtain⟨y,hy⟩:∃y,m[i]?=some y:=⟨_,List.getElem?_eq_getElem (by omega)⟩;obtain⟨g,off,hA,hgl,hc⟩:=HL.out.2 (by omega);obtain⟨g',off',hA',hgl',hc'⟩:=HM.out.2 (by omega);have hcc:∀(b o:Nat) (u:Value),w.cell? ⟨b,o,none⟩=some u→wr.cell? ⟨b,o,none⟩=some u:=fun b o u h=>cell_in HB.out h;have r0:wr.cell? ⟨g,off+i*2,none⟩=some (.int .u64 (x.1:Int)):=hcc _ _ _ (hc (i*2+0) _ (pairC_at hx (by omega)));have r1:wr.cell? ⟨g,off+i*2+1,none⟩=some (.int .u64 (x.2:Int)):=hcc _ _ _ (hc (i*2+1) _ (pairC_at hx (by omega)));have s0:wr.cell? ⟨g',off'+i*2,none⟩=some (.int .u64 (y.1:Int)):=hcc _ _ _ (hc' (i*2+0) _ (pairC_at hy (by omega)));have s1:wr.cell? ⟨g',off'+i*2+1,none⟩=some (.int .u64 (y.2:Int)):=hcc _ _ _ (hc' (i*2+1) _ (pairC_at hy (by omega)));have heq:=eq_PlPair x y;subst hA hA';have HMe:=qd (show l.length-(i+1)<l.length-i by omega);have HXY:=qd (And.intro hx hy);clear hc hc' hcc hx hy;obtain⟨q,hq⟩:∃q,q=decide (x=y):=⟨_,rfl⟩;have HQ:=qd hq;rw[←hq]at heq;clear hq;go_upto_region 6 with fail;go_region;refine nameW (F:=fun W=>Below w.heap.size w W) HB.out.drew ?_;intro w2 hb2;have HB2:=qd hb2;clear hb2
    cases q with
    |true=>
     have HS2:=qd (show∀t,t<i+1→l[t]?=m[t]? from fun t ht=>by
      by_cases h:t<i
      ·exact HS.out t h
      ·obtain rfl:t=i:=by omega
       rw[HXY.out.1,HXY.out.2,of_decide_eq_true HQ.out.symm])
     go_wp2;go_roundw
     all_goals first|exact⟨i+1,by omega,rfl,HS2,HB2⟩|(simp[intOf];have:=HMe.out;omega)
    |false=>
     have HN:=qd (show r=false from by
      rw[HR.out];refine decide_eq_false fun e=> ?_;have h1:=of_decide_eq_false HQ.out.symm;have h2:=HXY.out.1;rw[e,HXY.out.2]at h2
      exact h1 (Option.some.inj h2).symm)
     go_wp2;go_ret;exact⟨by rw[HN.out];rfl,HB2.out⟩
   ·obtain rfl:i=l.length:=by omega
    have hlt':¬(l.length:Int)<(l.length:Int):=by omega
    have HN:=qd (show r=true from by
     rw[HR.out];refine decide_eq_true (List.ext_getElem? fun t=> ?_);by_cases h:t<l.length
     ·exact HS.out t h
     ·rw[List.getElem?_eq_none (by omega),List.getElem?_eq_none (by omega)])
    go_wp2;go_ret;exact⟨by rw[HN.out];rfl,HB.out⟩
 ·have hlen':¬(l.length:Int)=(m.length:Int):=by omega
  clear hl hm;rw[show decide (l=m)=false from decide_eq_false (fun e=>hlen (by rw[e]))];go_in;go_wp2;go_ret;exact⟨rfl,Below.refl _ _⟩
theorem pl_Same (hl:Reads w B 2 A l.length (l.flatMap pairC))(hm:Reads w B' 2 A' m.length (m.flatMap pairC))(hn:l.length≤100000):
  Calls Tryz.prog 14 #[.slice A l.length c,.slice A' m.length c'] w fun y w'=>y= .returned (.bool (decide (l=m)))∧Below w.heap.size w w':=by
 have HE:=qd (pl_Equal (c:=c) (c':=c') hl hm hn);obtain⟨r,hr⟩:∃r,r=decide (l=m):=⟨_,rfl⟩;rw[←hr]at HE⊢;clear hl hm hr;go_in;go_wp2_with fail;refine HE.out.mono ?_;rintro y w1 ⟨rfl,hb1⟩;have HB:=qd hb1;clear hb1;go_wp2;go_ret;exact⟨rfl,HB.out⟩
end
section
variable {j key m : Nat} {es : List Ent} {e : Ent}
def FindPost (es:List Ent)(key:Nat)(y:Int):Prop:=(∃(i:Nat) (e:Ent),es[i]?=some e∧e.key=key∧y=(i:Int)∧∀k,k<i→∀e',es[k]?=some e'→e'.key≠key)∨((∀e∈es,e.key≠key)∧y= -1)
end
section
variable {es : List Ent} {j key : Nat} {e : Ent}
def without (es:List Ent)(key j:Nat):List Ent:=(es.take j).filter fun x=>x.key !=key
end
section
section
variable {w w' : World} {base mb M : Nat} {es : List Ent} {R : List Nat}
end
def cutAt (y:Option Ent)(hi:Nat):Option Ent:=match y with|none=>none|some m=>if m.hash≤hi then some m else none
end
section
variable {l : List Ent} {m : Ent} {b base : Nat} {w : World} {v : Value}
def Asc (l:List Ent):Prop:=l.Pairwise fun x y=>lessE x y=true
theorem Asc.nodup (h:Asc l):l.Nodup:=h.imp fun hxy e=>by rw[e,less_irrefl]at hxy;cases hxy
theorem asc_snoc (h:Asc l)(hm:∀e∈l,lessE e m=true):Asc (l++[m]):=List.pairwise_append.2 ⟨h,List.pairwise_singleton _ _,fun x hx y hy=>by rw[List.mem_singleton.1 hy];exact hm x hx⟩
def below_ (hs:List Nat)(b:Nat):Nat:=(hs.filter fun h=>decide (h<b)).length
theorem below_mono (hs:List Nat){a:Nat}(h:a≤b):below_ hs a≤below_ hs b:=by
 unfold below_
 induction hs with
 |nil=>simp
 |cons x l ih=>
  simp only[List.filter_cons];by_cases h1:x<a
  ·rw[if_pos (by simpa using h1),if_pos (by simp;omega)];simp only[List.length_cons];omega
  ·rw[if_neg (by simpa using h1)]
   split<;>(try simp only[List.length_cons])<;>omega
theorem below_more {hs:List Nat}{a x:Nat}(hx:x∈hs)(h1:a≤x)(h2:x<b):below_ hs a+1≤below_ hs b:=by
 obtain⟨s,t,rfl⟩:=List.append_of_mem hx;have g1:=below_mono s (Nat.le_trans h1 (Nat.le_of_lt h2));have g2:=below_mono t (Nat.le_trans h1 (Nat.le_of_lt h2));unfold below_ at g1 g2⊢;rw[List.filter_append,List.filter_append,List.filter_cons,List.filter_cons,if_neg (by simp;omega),if_pos (by simp;omega)];simp only[List.length_append,List.length_cons];omega
theorem below_le (hs:List Nat)(b:Nat):below_ hs b≤hs.length:=List.length_filter_le _ _
structure WalkSt (es:List Ent)(hs:List Nat)(n:Nat)(out:List Ent)(key hash:Nat):Prop where
 asc:Asc out
 mem:∀e,e∈out↔e∈es∧lessE e ⟨key,0,hash⟩=true
 cnt:n≤out.length+below_ hs hash
section
variable {es out : List Ent} {hs : List Nat} {n key hash hi : Nat}
theorem WalkSt.start (es:List Ent)(hs:List Nat):WalkSt es hs 0 [] 0 0:=⟨.nil,fun e=>by simp[lessE],Nat.zero_le _⟩
theorem sub_nodup {l':List Ent}(hn:l.Nodup)(hs:∀x∈l,x∈l'):l.length≤l'.length:=by
 induction l generalizing l' with
 |nil=>exact Nat.zero_le _
 |cons x l ih=>
  rw[List.nodup_cons]at hn;obtain⟨s,t,rfl⟩:=List.append_of_mem (hs x (by simp))
  have h1:=ih (l':=s++t) hn.2 (fun y hy=>by
   have:=hs y (by simp[hy]);simp only[List.mem_append,List.mem_cons]at this⊢;rcases this with h|h|h
   ·exact .inl h
   ·rw[h]at hy;exact absurd hy hn.1
   ·exact .inr h)
  simp only[List.length_append,List.length_cons]at h1⊢;omega
theorem WalkSt.len (h:WalkSt es hs n out key hash):out.length≤es.length:=sub_nodup h.asc.nodup (fun e he=>((h.mem e).1 he).1)
theorem WalkSt.few (h:WalkSt es hs n out key hash)(h1:es.length≤192)(h2:hs.length≤32):n≤224:=by
 have:=h.cnt;have:=h.len;have:=below_le hs hash;omega
theorem WalkSt.some_ (h:WalkSt es hs n out key hash)(hn:(es.map Ent.key).Nodup)(hm:IsLeast ⟨key,0,hash⟩ (upto es hi) (some m)):WalkSt es hs (n+1) (out++[m]) (m.key+1) m.hash∧(∀e∈out,lessE e m=true)∧m.hash≤hi∧m∈es:=by
 obtain⟨m1,m2⟩:=mem_upto.1 hm.1
 have hlt:∀e∈out,lessE e m=true:=fun e he=>by
  have h1:=((h.mem e).1 he).2;have h2:=hm.2.1;simp[lessE]at h1 h2⊢;omega
 have hh:=less_hash hm.2.1;refine⟨⟨asc_snoc h.asc hlt,fun e=>⟨fun he=> ?_,fun he=> ?_⟩, ?_⟩,hlt,m2,m1⟩
 ·rcases List.mem_append.1 he with h1|h1
  ·refine⟨((h.mem e).1 h1).1, ?_⟩;have:=hlt e h1;simp[lessE]at this⊢;omega
  ·rw[List.mem_singleton.1 h1];exact⟨m1,by simp[lessE]⟩
 ·rw[List.mem_append,List.mem_singleton]
  cases hl:lessE e ⟨key,0,hash⟩with
  |true=>exact .inl ((h.mem e).2 ⟨he.1,hl⟩)
  |false=>
   right;have h1:=he.2;have h2:=hm.2.2 e (mem_upto.2 ⟨he.1,by simp[lessE]at h1;omega⟩) hl
   have hk:e.key=m.key:=by simp[lessE]at h1 h2;omega
   have e1:=look_some hn he.1;have e2:=look_some hn m1;rw[hk,e2]at e1;exact(Option.some.inj e1).symm
 ·have:=h.cnt;have:=below_mono hs hh;simp only[List.length_append,List.length_cons,List.length_nil];omega
theorem WalkSt.none_ (h:WalkSt es hs n out key hash)(hm:IsLeast ⟨key,0,hash⟩ (upto es hi) none)(h1:hash≤hi)(h2:hi∈hs):WalkSt es hs (n+1) out 0 (hi+1):=by
 refine⟨h.asc,fun e=>⟨fun he=> ?_,fun he=> ?_⟩, ?_⟩
 ·have:=(h.mem e).1 he;refine⟨this.1, ?_⟩;have h3:=this.2;simp[lessE]at h3⊢;omega
 ·have h3:=he.2;exact(h.mem e).2 ⟨he.1,hm e (mem_upto.2 ⟨he.1,by simp[lessE]at h3;omega⟩)⟩
 ·have:=h.cnt;have:=below_more (b:=hi+1) h2 h1 (by omega);omega
end
end
section
structure Itm where
 st:Nat
 key:Nat
 val:Nat
def Itm.zero:Itm:=⟨0,0,0⟩
def Cur.passed (c:Cur)(e:Ent):Prop:=c.done=true∨lessE e ⟨c.key,0,c.hash⟩=true
inductive NextS (es:List Ent)(hs:List Nat)(c:Cur):Itm→Cur→Prop
 |done (h:c.done=true):NextS es hs c ⟨3,0,0⟩ c
 |yield (h:c.done=false) (hi:Nat) (m:Ent) (h1:c.hash≤hi) (h2:hi∈hs) (h3:hi<18446744073709551616) (h4:∀x∈hs,c.hash≤x→hi≤x) (hm:IsLeast ⟨c.key,0,c.hash⟩ (upto es hi) (some m)):NextS es hs c ⟨1,m.key,m.val⟩ (behind m.hash m.key)
 |skip (h:c.done=false) (hi:Nat) (h1:c.hash≤hi) (h2:hi∈hs) (h3:hi<18446744073709551616) (h4:∀x∈hs,c.hash≤x→hi≤x) (hm:IsLeast ⟨c.key,0,c.hash⟩ (upto es hi) none):NextS es hs c ⟨if hi<18446744073709551615 then 2 else 3,0,0⟩ (behind hi 18446744073709551615)
theorem behind_ok {h k:Nat}(h1:h<18446744073709551616):(behind h k).ok:=by
 unfold behind Cur.ok;split
 ·exact⟨h1,by simp only;omega⟩
 ·split
  ·exact⟨by simp only;omega,by simp⟩
  ·simp
theorem keys_apart {es:List Ent}(hn:(es.map Ent.key).Nodup):∀e∈es,∀e'∈es,e.key=e'.key→e=e':=fun e he e' he' hk=>by
 have e1:=look_some hn he;have e2:=look_some hn he';rw[hk,e2]at e1;exact(Option.some.inj e1).symm
section
variable {es out : List Ent} {hs : List Nat} {n : Nat} {c c' c'' : Cur} {i i' : Itm}
structure Way (es:List Ent)(hs:List Nat)(n:Nat)(out:List Ent)(c:Cur):Prop where
 asc:Asc out
 mem:∀e,e∈out↔e∈es∧c.passed e
 cnt:c.done=false→n≤out.length+below_ hs c.hash
 ok:c.ok
theorem Way.start (es:List Ent)(hs:List Nat):Way es hs 0 [] ⟨0,0,false⟩:=⟨.nil,fun e=>by simp[Cur.passed,lessE],fun _=>Nat.zero_le _,by simp[Cur.ok]⟩
theorem passed_behind {es:List Ent}{hash key:Nat}(h1:hash<18446744073709551616)(h2:key<18446744073709551616)(he:∀e∈es,e.hash<18446744073709551616∧e.key<18446744073709551616){e:Ent}(h:e∈es):(behind hash key).passed e↔lessE e ⟨key+1,0,hash⟩=true:=by
 have:=he e h;unfold behind Cur.passed;split
 ·simp[lessE]
 ·split
  ·simp[lessE];omega
  ·simp[lessE];omega
theorem Way.walkSt (h:Way es hs n out c)(hd:c.done=false):WalkSt es hs n out c.key c.hash:=⟨h.asc,fun e=>by rw[h.mem e];unfold Cur.passed;rw[hd];simp,h.cnt hd⟩
theorem walk_way {hash key:Nat}(h:WalkSt es hs n out (key+1) hash)(h1:hash<18446744073709551616)(h2:key<18446744073709551616)(he:∀e∈es,e.hash<18446744073709551616∧e.key<18446744073709551616):Way es hs n out (behind hash key):=by
 refine⟨h.asc,fun e=>⟨fun hh=> ?_,fun hh=> ?_⟩,fun hd=> ?_,behind_ok h1⟩
 ·obtain⟨g1,g2⟩:=(h.mem e).1 hh;exact⟨g1,(passed_behind h1 h2 he g1).2 g2⟩
 ·exact(h.mem e).2 ⟨hh.1,(passed_behind h1 h2 he hh.1).1 hh.2⟩
 ·have h3:=h.cnt
  have:hash≤(behind hash key).hash:=by
   unfold behind at hd⊢;split
   ·exact Nat.le_refl _
   ·split
    ·exact Nat.le_succ _
    ·rename_i a b;rw[if_neg a,if_neg b]at hd;cases hd
  have:=below_mono hs this;omega
theorem Way.next (h:Way es hs n out c)(hn:(es.map Ent.key).Nodup)(he:∀e∈es,e.hash<18446744073709551616∧e.key<18446744073709551616)(hN:NextS es hs c i c'):
  ∃out',Way es hs (n+1) out' c'∧((i.st=1∧c.done=false∧∃m∈es,out'=out++[m]∧(∀e∈out,lessE e m=true)∧¬c.passed m∧i.key=m.key∧i.val=m.val∧c'=behind m.hash m.key)∨(i.st≠1∧out'=out∧i.key=0∧i.val=0∧(i.st=2∨i.st=3)∧(i.st=3↔c'.done=true))):=by
 cases hN with
 |done hd=>exact⟨out,⟨h.asc,h.mem,fun hh=>(by rw[hd]at hh;cases hh),h.ok⟩,.inr ⟨by simp,rfl,rfl,rfl,.inr rfl,by simp[hd]⟩⟩
 |yield hd hi m h1 h2 h3 h4 hm=>
  obtain⟨w1,w2,w3,w4⟩:=(h.walkSt hd).some_ hn hm;have hb:=he m w4;exact⟨out++[m],walk_way w1 hb.1 hb.2 he,.inl ⟨rfl,hd,m,w4,rfl,w2,fun hp=>(by rcases hp with hp|hp;rw[hd]at hp;cases hp;have:=hm.2.1;rw[hp]at this;cases this),rfl,rfl,rfl⟩⟩
 |skip hd hi h1 h2 h3 h4 hm=>
  have hcn:=h.cnt hd
  have hpass:∀e∈es,((behind hi 18446744073709551615).passed e↔c.passed e):=fun e hh=>by
   rw[passed_behind h3 (by omega) he hh];have hb:=he e hh;unfold Cur.passed;rw[hd];constructor
   ·intro hl;right;exact hm e (mem_upto.2 ⟨hh,by simp[lessE]at hl;omega⟩)
   ·rintro(hl|hl)
    ·cases hl
    ·simp[lessE]at hl⊢;omega
  refine⟨out,⟨h.asc,fun e=>⟨fun hh=> ?_,fun hh=> ?_⟩,fun hx=> ?_,behind_ok h3⟩,.inr ⟨?_,rfl,rfl,rfl, ?_, ?_⟩⟩
  ·obtain⟨g1,g2⟩:=(h.mem e).1 hh;exact⟨g1,(hpass e g1).2 g2⟩
  ·exact(h.mem e).2 ⟨hh.1,(hpass e hh.1).1 hh.2⟩
  ·have hx':hi<18446744073709551615:=by
    unfold behind at hx;rw[if_neg (by omega)]at hx;by_cases hlt:hi<18446744073709551615
    ·exact hlt
    ·rw[if_neg hlt]at hx;cases hx
   have hb:(behind hi 18446744073709551615).hash=hi+1:=by
    unfold behind;rw[if_neg (by omega),if_pos hx']
   rw[hb];have:=below_more (b:=hi+1) h2 h1 (by omega);omega
  ·simp only;split<;>omega
  ·simp only;split<;>simp
  ·unfold behind
   by_cases hlt:hi<18446744073709551615<;>simp[hlt]
theorem Way.few (h:Way es hs n out c)(hd:c.done=false)(hN:NextS es hs c i c'):n<es.length+hs.length:=by
 have h1:=h.cnt hd;have h2:out.length≤es.length:=sub_nodup h.asc.nodup (fun e he=>((h.mem e).1 he).1)
 have h3:below_ hs c.hash<hs.length:=by
  have hx:∃hi,c.hash≤hi∧hi∈hs:=by
   cases hN with
   |done h=>rw[hd]at h;cases h
   |yield h hi m h1 h2=>exact⟨hi,h1,h2⟩
   |skip h hi h1 h2=>exact⟨hi,h1,h2⟩
  obtain⟨hi,g1,g2⟩:=hx;have:=below_more (b:=hi+1) g2 g1 (by omega);have:=below_le hs (hi+1);omega
 omega
theorem Way.all_ (h:Way es hs n out c)(hn:(es.map Ent.key).Nodup)(hd:c.done=true):out.Perm es:=
 (List.perm_ext_iff_of_nodup h.asc.nodup (by
  unfold List.Nodup at hn⊢;rw[List.pairwise_map]at hn
  exact hn.imp fun hxy e=>hxy (by rw[e]))).2 fun e=>⟨fun he=>((h.mem e).1 he).1,fun he=>(h.mem e).2 ⟨he,.inl hd⟩⟩
end
end
section
def itV (i:Itm):Value:= .agg #[.int .i64 (i.st:Int),.int .u64 (i.key:Int),.int .u64 (i.val:Int)]
def itSet (its:List It)(id:Nat)(c:Cur):List It:=its.map fun i=>if i.id=id then{i with c:=c} else i
theorem nodup_cb_eq {its:List It}(hn:(its.map It.cb).Nodup){i j:It}(hi:i∈its)(hj:j∈its)(h:i.cb=j.cb):i=j:=by
 induction its with
 |nil=>cases hi
 |cons x l ih=>
  rw[List.map_cons,List.nodup_cons]at hn;rcases List.mem_cons.1 hi with h1|h1
  ·rcases List.mem_cons.1 hj with h2|h2
   ·rw[h1,h2]
   ·exact absurd (show x.cb∈l.map It.cb from by rw[←h1,h];exact List.mem_map_of_mem h2) hn.1
  ·rcases List.mem_cons.1 hj with h2|h2
   ·exact absurd (show x.cb∈l.map It.cb from by rw[←h2,←h];exact List.mem_map_of_mem h1) hn.1
   ·exact ih hn.2 h1 h2
section
variable {w w' : World} {ib mb most given id cb : Nat} {its : List It} {c c' : Cur}
theorem itSet_id:(itSet its id c).map It.id=its.map It.id:=by
 unfold itSet;rw[List.map_map];apply List.map_congr_left;intro i _;simp only[Function.comp_apply]
 split<;>rfl
theorem itSet_cb:(itSet its id c).map It.cb=its.map It.cb:=by
 unfold itSet;rw[List.map_map];apply List.map_congr_left;intro i _;simp only[Function.comp_apply]
 split<;>rfl
theorem itSet_foot:itFoot ib mb (itSet its id c)=itFoot ib mb its:=by unfold itFoot;rw[itSet_cb]
theorem itSet_map:itMap (itSet its id c)=itMap its:=by
 unfold itMap itSet;rw[List.map_map];apply List.map_congr_left;intro i _;simp only[Function.comp_apply]
 split<;>rfl
theorem ItAt.setCur (h:ItAt w ib mb most given its)(hi:⟨id,cb,c⟩∈its)(hc:CurAt w' cb c'){S:List Nat}(hm:Mod S w w')(hS:∀q∈S,q=cb∨q∉itFoot ib mb its):ItAt w' ib mb most given (itSet its id c'):=by
 have hnf:=h.nf;unfold itFoot at hnf;rw[List.nodup_cons,List.nodup_cons]at hnf;have hcbm:cb∈its.map It.cb:=List.mem_map.2 ⟨_,hi,rfl⟩;have h1:ib∉S:=fun hh=>(hS _ hh).elim (fun k=>hnf.1 (by rw[k];exact List.mem_cons_of_mem _ hcbm)) (fun k=>k (by simp[itFoot]));have h2:mb∉S:=fun hh=>(hS _ hh).elim (fun k=>hnf.2.1 (by rw[k];exact hcbm)) (fun k=>k (by simp[itFoot]));refine⟨h.blk.mod hm h1,by rw[itSet_map];exact h.map.mod hm h2,fun i hi'=> ?_,fun i hi'=> ?_,by rw[itSet_id];exact h.nd,by rw[itSet_foot];exact h.nf,h.few.1,by unfold itSet;rw[List.length_map];exact h.few.2⟩
 ·unfold itSet at hi';obtain⟨j,hj,rfl⟩:=List.mem_map.1 hi';by_cases hid:j.id=id
  ·rw[if_pos hid];have:=nodup_map_eq h.nd hj hi hid;rw[this];exact hc
  ·rw[if_neg hid];refine(h.cur j hj).mod hm (fun hh=>hid ?_);have hcb:j.cb=cb:=(hS _ hh).elim (fun k=>k) (fun k=>absurd (by unfold itFoot;simp only[List.mem_cons];exact .inr (.inr (List.mem_map_of_mem hj))) k);have hn:(its.map It.cb).Nodup:=hnf.2.2;exact congrArg It.id (nodup_cb_eq hn hj hi hcb)
 ·have:i.id∈its.map It.id:=by rw[←itSet_id (id:=id) (c:=c')];exact List.mem_map_of_mem hi'
  obtain⟨j,hj,hji⟩:=List.mem_map.1 this;rw[←hji];exact h.ids j hj
end
def StepP (W0:World)(E:Nat→Addr)(H:Nat→Nat)(Kk M I b:Nat)(G0:List Nat)(w0:World)(C:RmC)(GC:List Nat)(mb gv:Nat)(a:Pool)(ids:List Nat)(its:List It)(id cb:Nat)(c:Cur)(V:World)(it:Itm)(w':World):Prop:=
 ∃(c':Cur) (cc:Cnt) (GC':List Nat),NextS a.ents (highs a) c it c'∧LeC cc∧RtS W0 E H Kk M I b G0 w0 C GC' mb gv w' a ids (itSet its id c')∧CoreAtC W0 E H Kk M C.cb GC' w' a ids cc∧(∀q∈GC',q∈GC∨V.heap.size≤q)∧Mod (cb::GC) V w'
section
variable {W0 : World} {E : Nat → Addr} {H : Nat → Nat} {Kk M I b : Nat} {G0 : List Nat} {w0 w : World} {C : RmC} {GC : List Nat} {mb gv : Nat} {a : Pool} {ids : List Nat} {its : List It} {id cb : Nat} {c : Cur}
theorem StepP.mod {T:List Nat}{V w1 w2:World}{it:Itm}(h:StepP W0 E H Kk M I b G0 w0 C GC mb gv a ids its id cb c V it w1)(hm:Mod T w1 w2)(hT:∀q∈T,q∉rtFoot b C GC mb its∧w0.heap.size≤q∧q<V.heap.size):
  ∃(c':Cur) (cc:Cnt) (GC':List Nat),NextS a.ents (highs a) c it c'∧LeC cc∧RtS W0 E H Kk M I b G0 w0 C GC' mb gv w2 a ids (itSet its id c')∧CoreAtC W0 E H Kk M C.cb GC' w2 a ids cc∧(∀q∈GC',q∈GC∨V.heap.size≤q)∧Mod (cb::(GC++T)) V w2:=by
 obtain⟨c',cc,GC',h1,h2,h3,h4,h5,h6⟩:=h
 have h7:∀q∈T,q∉GC':=fun q hq hg=>by
  rcases h5 q hg with k|k
  ·exact(hT q hq).1 (mem_rtFoot.2 (.inr (.inr k)))
  ·have:=(hT q hq).2.2;omega
 refine⟨c',cc,GC',h1,h2,h3.mod_ hm (fun q hq=>⟨fun hg=> ?_,(hT q hq).2.1⟩),h4.mod hm (fun q hq=>⟨h7 q hq,Nat.le_trans h3.le0 (hT q hq).2.1⟩),h5,(h6.more (fun q hq=>by simp at hq⊢;rcases hq with k|k;exact .inl k;exact .inr (.inl k))).then (hm.more (fun q hq=>by simp;exact .inr (.inr hq)))⟩;rcases mem_rtFoot.1 hg with k|k|k
 ·exact(hT q hq).1 (mem_rtFoot.2 (.inl k))
 ·rw[itSet_foot]at k;exact(hT q hq).1 (mem_rtFoot.2 (.inr (.inl k)))
 ·exact h7 q hq k
theorem StepP.of {S:List Nat}{V V1 V2:World}{c':Cur}{cc:Cnt}{GC':List Nat}{it:Itm}(h3:RtS W0 E H Kk M I b G0 w0 C GC' mb gv V1 a ids its)(h4:CoreAtC W0 E H Kk M C.cb GC' V1 a ids cc)(h5:∀q∈GC',q∈GC∨V.heap.size≤q)(h6:Mod GC V V1)(hi:⟨id,cb,c⟩∈its)(h1:NextS a.ents (highs a) c it c')(h2:LeC cc)(hc:CurAt V2 cb c')(hm:Mod S V1 V2)(hS:∀q∈S,q=cb∨(q∉rtFoot b C GC' mb its∧w0.heap.size≤q∧V.heap.size≤q)):StepP W0 E H Kk M I b G0 w0 C GC mb gv a ids its id cb c V it V2:=by
 have hcb:cb∈itFoot C.ib mb its:=by
  unfold itFoot;simp only[List.mem_cons,List.mem_map];exact .inr (.inr ⟨_,hi,rfl⟩)
 refine⟨c',cc,GC',h1,h2,h3.setI (h3.itr.setCur hi hc hm (fun q hq=>(hS q hq).elim .inl (fun k=> .inr (fun g=>k.1 (mem_rtFoot.2 (.inr (.inl g))))))) hm (fun q hq=>(hS q hq).elim (fun k=> .inl (k▸hcb)) (fun k=> .inr ⟨k.1,k.2.1⟩)) (fun q hq=>by rw[itSet_foot]at hq;exact .inl hq),h4.mod hm (fun q hq=> ?_),h5,h6.trans hm (fun q hq _=>List.mem_cons_of_mem _ hq) (fun q hq hl=> ?_)⟩
 ·rcases hS q hq with k|k
  ·rw[k];exact⟨h3.apart.2.2 _ hcb,h3.b0.2 _ hcb⟩
  ·exact⟨fun g=>k.1 (mem_rtFoot.2 (.inr (.inr g))),Nat.le_trans h3.le0 k.2.1⟩
 ·rcases hS q hq with k|k
  ·rw[k];simp
  ·omega
theorem RtS.ents64 (h:RtS W0 E H Kk M I b G0 w0 C GC mb gv w a ids its):∀e∈a.ents,e.hash<18446744073709551616∧e.key<18446744073709551616:=fun e he=>by
 obtain⟨i,N,h1,h2⟩:=mem_pool.1 he;have h3:=((h.core.facts.2.2.2.2.2.1 i N h1).hash e h2).1;exact⟨h3.h64,h3.k64⟩
end
theorem rt_step {W0:World}{E:Nat→Addr}{H:Nat→Nat}{Kk M I b:Nat}{G0:List Nat}{w0 w:World}{C:RmC}{GC:List Nat}{mb gv:Nat}{a:Pool}{ids:List Nat}{its:List It}{id cb:Nat}{c:Cur}(hS:RtS W0 E H Kk M I b G0 w0 C GC mb gv w a ids its)(hi:⟨id,cb,c⟩∈its)(hd:c.done=false)(hok:c.ok):Calls Tryz.prog 63 #[.pointer (some ⟨b,0,none⟩),.pointer (some ⟨cb,0,none⟩)] w fun y w'=>∃it,y= .returned (.tuple #[itV it,.nilIface])∧StepP W0 E H Kk M I b G0 w0 C GC mb gv a ids its id cb c w it w':=by
 have hst:=hS;have hB:=(Below.refl w.heap.size w).alloc (Nat.le_refl _) (.cells #[.int .i64 0,.int .u64 0,.int .u64 0] 78);have hR:=Blk.new w 78 #[.int .i64 0,.int .u64 0,.int .u64 0];obtain⟨W,hW⟩:∃W,W=w.alloc (.cells #[.int .i64 0,.int .u64 0,.int .u64 0] 78):=⟨_,rfl⟩;rw[←hW]at hB hR;have hcu:=(hS.itr.cur _ hi).mod (Mod.of_below hB []) (by simp);have HS:=qd (hS.below hB);have HR:=qd hR;have HB:=qd hB;have HW:=qd hW;have HI:=qd hi;have HCu:=qd hcu;have HEn:=qd hS.ents64;have HD:=qd hd;have HOk:=qd hok;have HNf:=qd (show w.heap.size∉rtFoot b C GC mb its from fun hg=>by have:=(hS.lts _ hg).1;omega);have HW0:=qd (show w0.heap.size≤w.heap.size from hS.mod.size);have HN0:=qd (show w.heap.size∉GC from fun hg=>by have:=(hS.lts _ (mem_rtFoot.2 (.inr (.inr hg)))).1;omega);have HNc:=qd (show w.heap.size≠cb from fun e=>by have:cb<w.heap.size:=(hS.itr.cur _ hi).lt;omega);clear hst hB hR hW hS hcu hi hd hok;go_in;go_upto_region 1 with fail;rw[←HW.out];go_wp2_with fail;refine(cursor_At HCu.out).mono ?_;rintro y W1 ⟨rfl,hb⟩;replace HS:=qd (HS.out.below hb);replace HR:=qB hb HR;replace HB:=qd (below_nx hb HB.out);clear hb HCu;have hbk:=HS.out.blk.blk;unfold RmC.cells at hbk;have c3:=hbk.cell 3;simp only[gl]at c3;have hle:=at_LeastC HS.out.core c.key c.hash HOk.out.1;unfold coreP at hle;have HLe:=qd hle;clear hbk hle;go_wp2_with fail;refine HLe.out.mono ?_;rintro y W2 ⟨o,hg,cc,GC',rfl,hfacts,hcc,hct,hsu,hmo⟩;have hs2:=HS.out.setC' hct.at_ hsu hmo
 have HRn:=qd (show w.heap.size∉GC' from fun hg=>(hsu _ hg).elim HN0.out (fun k=>by have:=HR.out.lt;omega));have HQ:=qd (show Mod GC w W2 from(Mod.of_below HB.out GC).then hmo);replace HR:=qd (HR.out.mod hmo HN0.out);replace HS:=qd hs2;have HCt:=qd hct;have HFa:=qd hfacts;have HCc:=qd hcc;have HSu:=qd (show∀q∈GC',q∈GC∨w.heap.size≤q from fun q hq=>(hsu q hq).elim .inl (fun k=> .inr (by have:=HB.out.size;omega)));have HCb:=qd (show cb<W2.heap.size from(hs2.itr.cur _ HI.out).lt);clear hs2 hct hfacts hcc hsu hmo HLe c3;obtain⟨e0,he0⟩:∃e0:Ent,e0=o.getD ⟨0,0,0⟩:=⟨_,rfl⟩;rw[←he0];have HE0:=qd he0;clear he0;unfold entV;go_upto_region 3 with fail;refine nameB 45 #[.int .u64 (e0.key:Int),.int .u64 (e0.val:Int),.int .u64 (e0.hash:Int)] ?_;rintro W3 ⟨hX,hb⟩;replace HS:=qd (HS.out.below hb);replace HCt:=qd (HCt.out.below hb);replace HR:=qB hb HR;replace HQ:=qd (HQ.out.then (Mod.of_below hb GC));have HX:=qd hX;obtain⟨xb,hxb⟩:∃xb,xb=W2.heap.size:=⟨_,rfl⟩;rw[←hxb]at HX⊢
 have hxr:xb≠cb:=fun e=>by have:=HCb.out;omega
 have HXc:=qd hxr;clear hX hb hxb hxr
 have HRf:=qd (show w.heap.size∉rtFoot b C GC' mb its from fun hg=>by
  rcases mem_rtFoot.1 hg with k|k|k
  ·exact HNf.out (mem_rtFoot.2 (.inl k))
  ·exact HNf.out (mem_rtFoot.2 (.inr (.inl k)))
  ·exact HRn.out k)
 have hxc:xb∉[cb]:=fun hh=>HXc.out (List.mem_singleton.1 hh);have hrc:w.heap.size∉[cb]:=fun hh=>HNc.out (List.mem_singleton.1 hh);have HXm:=qd hxc;have HRm:=qd hrc;clear hxc hrc
 cases o with
 |some m=>
  obtain rfl:e0=m:=HE0.out;have hmm:=HFa.out.2.2.2.2.1;have HMem:=qd (HEn.out e0 (mem_upto.1 hmm).1);have HLs:=qd HFa.out.2.2.2.2.2.1;have HPa:=qd (fun V (hV:CurAt V cb c)=>cursor_Pass hV HD.out e0 HMem.out.2 HMem.out.1 HLs.out);unfold entV at HPa;have HNx:=qd (NextS.yield HD.out hg e0 HFa.out.1 HFa.out.2.2.1 HFa.out.2.1 HFa.out.2.2.2.1 HFa.out.2.2.2.2);clear hmm;go_upto_region 4 with fail;have e0c:=HX.out.cell 0;have e1c:=HX.out.cell 1;have e2c:=HX.out.cell 2;simp only[gl]at e0c e1c e2c;refine rT (fun(w':World)=>w'.cell? ⟨xb,0,none⟩=some (.int .u64 (e0.key:Int))∧w'.cell? ⟨xb,1,none⟩=some (.int .u64 (e0.val:Int))∧w'.cell? ⟨xb,2,none⟩=some (.int .u64 (e0.hash:Int))) [8] ?_;have hHeld:=(⟨e0c,e1c,e2c⟩:_∧_∧_);refine vW 0 rfl ?_;refine vT 1 rfl ?_;refine vW 2 rfl ?_;refine vT 3 rfl ?_;refine vW 4 rfl ?_;refine vW 5 rfl ?_;refine vT 6 rfl ?_;refine nT 7 rfl fun K hK=> ?_;go_simp;refine(HPa.out _ ((HS.out.itr.cur _ HI.out).mod (Mod.of_below (Below.refl W3.heap.size W3).drew []) (by simp))).mono ?_;rintro y W4 ⟨rfl,hc4,hm4⟩;replace hm4:Mod [cb] W3 W4:=(Mod.of_below (Below.refl W3.heap.size W3).drew [cb]).then hm4;replace HR:=qd (HR.out.mod hm4 HRm.out);have HC4:=qd hc4;have HM4:=qd hm4;replace HX:=qd (HX.out.mod hm4 HXm.out);clear hc4 hm4 HPa e0c e1c e2c;have e0c:=HX.out.cell 0;have e1c:=HX.out.cell 1;have e2c:=HX.out.cell 2;simp only[gl]at e0c e1c e2c;go_wp2_with fail;have hHeld:=(⟨e0c,e1c,e2c⟩:_∧_∧_);refine kO hK ?_;clear hK K;refine nT 8 rfl fun K hK=> ?_;have r:=HR.out.c3
  obtain⟨f0,f1,f2⟩:=HR.out.f3;have hnw:=((HR.out.set_ 0 (.int .i64 1)).set_ 1 (.int .u64 (e0.key:Int))).set_ 2 (.int .u64 (e0.val:Int));have hm5:=(((Mod.refl [w.heap.size] W4).set_ (b:=w.heap.size) (.inl (by simp)) 0 (.int .i64 1)).set_ (b:=w.heap.size) (.inl (by simp)) 1 (.int .u64 (e0.key:Int))).set_ (b:=w.heap.size) (.inl (by simp)) 2 (.int .u64 (e0.val:Int));simp only[pt]at hnw;have hmt:Mod [cb,w.heap.size] W3 ((((W4).setCell ⟨w.heap.size,0,none⟩ (.int .i64 1)).setCell ⟨w.heap.size,1,none⟩ (.int .u64 (e0.key:Int))).setCell ⟨w.heap.size,2,none⟩ (.int .u64 (e0.val:Int))):=HM4.out.trans hm5 (fun q hq _=>by simp at hq⊢;exact .inl hq) (fun q hq _=>by simp at hq⊢;exact .inr hq)
  have HF:=qd (StepP.of (V:=w) HS.out HCt.out HSu.out HQ.out HI.out HNx.out HCc.out (HC4.out.mod hm5 (fun hh=>HNc.out (List.mem_singleton.1 hh).symm)) hmt (fun q hq=>by
   rcases List.mem_cons.1 hq with k|k
   ·exact .inl k
   ·rw[List.mem_singleton.1 k];exact .inr ⟨HRf.out,HW0.out,Nat.le_refl _⟩))
  have HNw:=qd hnw;clear hnw hm5 hmt;go_simp;refine kO hK ?_;clear hK K;refine vL 9 rfl ?_;refine doneT (by kernel_rfl) ?_ _;go_wp2;refine bodyPost_ret (v:= .tuple #[.agg #[.int .i64 1,.int .u64 (e0.key:Int),.int .u64 (e0.val:Int)],.nilIface]) (by simp[results,Tryz.results63,go_sem,r.1,r.2.1,r.2.2]) rfl ⟨⟨1,e0.key,e0.val⟩,rfl,HF.out⟩
 |none=>
  have HPa:=qd (cursor_Skip (HS.out.itr.cur _ HI.out) HD.out hg HFa.out.2.1 HFa.out.1);have HNx:=qd (NextS.skip HD.out hg HFa.out.1 HFa.out.2.2.1 HFa.out.2.1 HFa.out.2.2.2.1 HFa.out.2.2.2.2);go_wp2_with fail;refine HPa.out.mono ?_;rintro y W4 ⟨rfl,hc4,hm4⟩;replace HR:=qd (HR.out.mod hm4 HRm.out);have HC4:=qd hc4;have HM4:=qd hm4;have HDn:=qd (cursor_Done hc4);clear hc4 hm4 HPa;by_cases hmx:hg<18446744073709551615
  ·have hdn:(behind hg 18446744073709551615).done=false:=by unfold behind;rw[if_neg (by omega),if_pos hmx]
   rw[hdn]at HDn;rw[if_pos hmx]at HNx;clear hdn;go_wp2_with fail;refine HDn.out.mono ?_;rintro y W5 ⟨rfl,rfl⟩;clear HDn;have r:=HR.out.c3;obtain⟨f0,f1,f2⟩:=HR.out.f3;have hnw:=((HR.out.set_ 0 (.int .i64 2)).set_ 1 (.int .u64 0)).set_ 2 (.int .u64 0);have hm5:=(((Mod.refl [w.heap.size] W4).set_ (b:=w.heap.size) (.inl (by simp)) 0 (.int .i64 2)).set_ (b:=w.heap.size) (.inl (by simp)) 1 (.int .u64 0)).set_ (b:=w.heap.size) (.inl (by simp)) 2 (.int .u64 0);simp only[pt]at hnw;have hmt:Mod [cb,w.heap.size] W3 ((((W4).setCell ⟨w.heap.size,0,none⟩ (.int .i64 2)).setCell ⟨w.heap.size,1,none⟩ (.int .u64 0)).setCell ⟨w.heap.size,2,none⟩ (.int .u64 0)):=HM4.out.trans hm5 (fun q hq _=>by simp at hq⊢;exact .inl hq) (fun q hq _=>by simp at hq⊢;exact .inr hq)
   have HF:=qd (StepP.of (V:=w) HS.out HCt.out HSu.out HQ.out HI.out HNx.out HCc.out (HC4.out.mod hm5 (fun hh=>HNc.out (List.mem_singleton.1 hh).symm)) hmt (fun q hq=>by
    rcases List.mem_cons.1 hq with k|k
    ·exact .inl k
    ·rw[List.mem_singleton.1 k];exact .inr ⟨HRf.out,HW0.out,Nat.le_refl _⟩))
   have HNw:=qd hnw;clear hnw hm5 hmt;go_wp2;refine bodyPost_ret (v:= .tuple #[.agg #[.int .i64 2,.int .u64 0,.int .u64 0],.nilIface]) (by simp[results,Tryz.results63,go_sem,r.1,r.2.1,r.2.2]) rfl ⟨⟨2,0,0⟩,rfl,HF.out⟩
  ·have hdn:(behind hg 18446744073709551615).done=true:=by unfold behind;rw[if_neg (by omega),if_neg hmx]
   rw[hdn]at HDn;rw[if_neg hmx]at HNx;clear hdn;go_wp2_with fail;refine HDn.out.mono ?_;rintro y W5 ⟨rfl,rfl⟩;clear HDn;have r:=HR.out.c3;obtain⟨f0,f1,f2⟩:=HR.out.f3;have hnw:=((HR.out.set_ 0 (.int .i64 3)).set_ 1 (.int .u64 0)).set_ 2 (.int .u64 0);have hm5:=(((Mod.refl [w.heap.size] W4).set_ (b:=w.heap.size) (.inl (by simp)) 0 (.int .i64 3)).set_ (b:=w.heap.size) (.inl (by simp)) 1 (.int .u64 0)).set_ (b:=w.heap.size) (.inl (by simp)) 2 (.int .u64 0);simp only[pt]at hnw;have hmt:Mod [cb,w.heap.size] W3 ((((W4).setCell ⟨w.heap.size,0,none⟩ (.int .i64 3)).setCell ⟨w.heap.size,1,none⟩ (.int .u64 0)).setCell ⟨w.heap.size,2,none⟩ (.int .u64 0)):=HM4.out.trans hm5 (fun q hq _=>by simp at hq⊢;exact .inl hq) (fun q hq _=>by simp at hq⊢;exact .inr hq)
   have HF:=qd (StepP.of (V:=w) HS.out HCt.out HSu.out HQ.out HI.out HNx.out HCc.out (HC4.out.mod hm5 (fun hh=>HNc.out (List.mem_singleton.1 hh).symm)) hmt (fun q hq=>by
    rcases List.mem_cons.1 hq with k|k
    ·exact .inl k
    ·rw[List.mem_singleton.1 k];exact .inr ⟨HRf.out,HW0.out,Nat.le_refl _⟩))
   have HNw:=qd hnw;clear hnw hm5 hmt;go_wp2;refine bodyPost_ret (v:= .tuple #[.agg #[.int .i64 3,.int .u64 0,.int .u64 0],.nilIface]) (by simp[results,Tryz.results63,go_sem,r.1,r.2.1,r.2.2]) rfl ⟨⟨3,0,0⟩,rfl,HF.out⟩
end
end Go.Proofs.YthfgacnlojmmfaaGreatDoor
