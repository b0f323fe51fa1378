/- Of package slice: numbers in a row, keyed. No statement of the claim. -/
import Derived.Test.YtkddpchpcepjgaaGreatDoorTry3
namespace Go.Proofs.YtkddpchpcepjgaaGreatDoor
set_option maxRecDepth 100000
set_option maxHeartbeats 4000000
open Go.RowKit uq Go.Shelf cu
section
variable {xs : List Int} {x : Int} {w : World}
def Fg (xs:List Int)(x:Int)(w:World)(e:Ending)(w':World):Prop:=
 ∃i:Int,e= .returned (.int .i64 i)/\(0<=i↔xs.contains x=true)/\-1<=i/\i<=65536/\w=w'
theorem index_hit {k:Nat}(hk:k<=65536)(h:xs.contains x=true):Fg xs x w (.returned (nI k)) w:=
 ⟨k,rfl,⟨λ_=>h,λ_=>by omega⟩,by omega,by omega,rfl⟩
theorem VX (h:xs.contains x=false):Fg xs x w (.returned (.int .i64 (-1))) w:=
 ⟨-1,rfl,⟨λh=>by omega,λh2=>by rw[h]at h2;cases h2⟩,by omega,by omega,rfl⟩
theorem Y9 (A:Option Addr)(n c:Nat)(xs:List Int)(x:Int)(w:World)(h:Reads w w.heap.size 1 A n (xs.map (Value.int .u64)))(hn:n<=65536):
  Calls Tryz.prog 54 #[.slice A n c,.int .u64 x] w (Fg xs x w):=by
 have hl:xs.length=n:=by simpa using h.1
 go_in;go_wp2;go_loop [4,5,8] (λ_ _ i=>∃k:Nat,k<=n/\i= .int .i64 k/\x∉xs.take k) (λ_ _ i=>n-(intOf i).toNat)
 case atStart=>exact⟨0,by omega,rfl,by simp⟩
 case round=>
  obtain⟨k,hk,rfl,hx⟩:=hrel;by_cases hlt:k<n
  ·obtain⟨b,off,rfl,hb,hc⟩:=h.Ol (by omega);have hc1:=hc k (.int .u64 (xs[k]'(by omega))) (by simp[hl,hlt]);have hy:xs[k]?=some (xs[k]'(by omega)):=zg _;generalize xs[k]'(by omega)=y at hc1 hy;have HY:=qd hy;have HX:=qd hx
   have hlt':(k:Int)<(n:Int):=by omega
   clear hc hy hx
   cases hxy:(x==y)with
   |true=>
    go_wp2;go_ret
    exact index_hit (k:=k) (by omega) (by
     have:=zE HY.o;rw[x7]at hxy;rw[hxy]
     simpa using this)
   |false=>
    go_wp2;go_round
    case rel=>exact⟨k+1,by omega,by go_num,by
     rw[J0,HY.o,Zs];rintro(h|h)
     ·exact HX.o h
     ·rw[xj]at hxy;simp at h
      exact hxy h⟩
    case measure=>simp[intOf];omega
  ·have hlt':¬(k:Int)<(n:Int):=by omega
   go_wp2;go_ret
   exact VX (by
    rw[ym (by omega)]at hx
    simpa using hx)
theorem Rn (A:Option Addr)(n c:Nat)(xs:List Int)(x:Int)(w:World)(h:Reads w w.heap.size 1 A n (xs.map (Value.int .u64)))(hn:n<=65536):
  Calls Tryz.prog 27 #[.slice A n c,.int .u64 x] w λe w'=>e= .returned (.bool (xs.contains x))/\w=w':=by
 have HI:=qd (Y9 A n c xs x w h hn);clear h;go_in;go_wp2_with fail;refine HI.o.mono ?_;rintro e w' ⟨i,rfl,hi,h1,h2,rfl⟩;go_wp2;go_ret;exact⟨jw (by first|simp|(rw[xy];simp only[Kf];exact hi)),rfl⟩
theorem adJ (A:Option Addr)(n c:Nat)(xs:List Int)(x:Int)(w:World)(h:Reads w w.heap.size 1 A n (xs.map (Value.int .u64)))(hn:n<=65536):
  Calls Tryz.prog 11 #[.slice A n c,.int .u64 x] w λe w'=>e= .returned (.bool (xs.contains x))/\w=w':=by
 have hl:xs.length=n:=by simpa using h.1
 go_in;go_wp2;go_loop [4,6,9] (λ_ _ i=>∃k:Nat,k<=n/\i= .int .i64 k/\x∉xs.take k) (λ_ _ i=>n-(intOf i).toNat)
 case atStart=>exact⟨0,by omega,rfl,by simp⟩
 case round=>
  obtain⟨k,hk,rfl,hx⟩:=hrel;by_cases hlt:k<n
  ·obtain⟨b,off,rfl,hb,hc⟩:=h.Ol (by omega);have hc1:=hc k (.int .u64 (xs[k]'(by omega))) (by simp[hl,hlt]);have hy:xs[k]?=some (xs[k]'(by omega)):=zg _;generalize xs[k]'(by omega)=y at hc1 hy;have HY:=qd hy;have HX:=qd hx
   have hlt':(k:Int)<(n:Int):=by omega
   clear hc hy hx
   cases hxy:(y==x)with
   |true=>
    go_wp2;go_ret
    exact⟨jw (by
     have:=zE HY.o;rw[x7]at hxy;rw[hxy]at this
     simpa using this),rfl⟩
   |false=>
    go_wp2;go_round
    case rel=>exact⟨k+1,by omega,by go_num,by
     rw[J0,HY.o,Zs];rintro(h|h)
     ·exact HX.o h
     ·rw[xj]at hxy;simp at h
      exact hxy h.symm⟩
    case measure=>simp[intOf];omega
  ·have hlt':¬(k:Int)<(n:Int):=by omega
   go_wp2;go_ret
   exact⟨jw (by
    rw[ym (by omega)]at hx;symm
    simpa using hx),rfl⟩
theorem Sg (o:aB)(w:World):Calls Tryz.prog 26 #[oq o] w λe w'=>e= .returned (.bool (cZ o.kind))/\Below w.heap.size w w':=by
 unfold oq;have HK:=qd (show cZ o.kind=(o.kind==1||o.kind==2||o.kind==3)from rfl)
 cases h1:(o.kind==1)with
 |true=>
  go_in;go_wp2;go_ret;exact⟨jw (by rw[HK.o,h1];rfl),(Below.refl _ _).alloc (zb _) _⟩
 |false=>
  cases h2:(o.kind==2)
  case' true=>
   skip
  case' false=>
   skip
  all_goals
   go_in;go_wp2;go_ret;exact⟨jw (by rw[HK.o,h1,h2];rfl),(Below.refl _ _).alloc (zb _) _⟩
end
def CW (w:World)(l:List aB)(e:Ending)(w':World):Prop:=
 ∃v,e= .returned v/\w'.ownsRow w.heap.size 45 5 v l.length (aQ l)/\Below w.heap.size w w'
def Nh (W:World)(b:Bool)(e:Ending)(W':World):Prop:=e= .returned (.bool b)/\Below W.heap.size W W'
theorem adK (i:Int)(o:aB)(p:Nat)(B:Option Addr)(m d:Nat)(ks:List Int)(W:World)(hc:W.cell? ⟨p,0,none⟩=some (.slice B m d))(hp:p<W.heap.size)(hk:Reads W W.heap.size 1 B m (ks.map (Value.int .u64)))(hm:m<=65536):
  Calls Tryz.prog 25 #[.int .i64 i,oq o,pQ p] W (Nh W (!cZ o.kind||ks.contains o.key)):=by
 have HK:=qd (λV=>Sg o V);unfold oq at HK|-;have hBl:=(Below.refl W.heap.size W).alloc (zb _) (.cells #[.int .i64 o.kind,.int .u64 o.key,.int .u64 o.val,.int .u64 o.hash,.int .i64 o.iter] 45);have hO:=aj.new W 45 #[.int .i64 o.kind,.int .u64 o.key,.int .u64 o.val,.int .u64 o.hash,.int .i64 o.iter];obtain⟨W1,hW1⟩:∃W1,W1=W.alloc (.cells #[.int .i64 o.kind,.int .u64 o.key,.int .u64 o.val,.int .u64 o.hash,.int .i64 o.iter] 45):=⟨_,rfl⟩;rw[<-hW1]at hBl hO;have HW1:=qd hW1;clear hW1
 cases hq:cZ o.kind with
 |false=>
  rw[hq]at HK;go_in;go_wp2_with fail;rw[<-HW1.o];refine(HK.o _).mono ?_;rintro e w2 ⟨rfl,hb2⟩;go_wp2;go_ret;exact⟨rfl,hBl.trans (hb2.mono hBl.size)⟩
 |true=>
  rw[hq]at HK;have HC:=qd (λ(V:World) (hV:Below W.heap.size W V)=>Rn B m d ks o.key V ((hk.below hV).more hV.size) hm);clear hk;go_in;go_wp2_with fail;rw[<-HW1.o];refine(HK.o _).mono ?_;rintro e w2 ⟨rfl,hb2⟩;have zA:=hBl.trans (hb2.mono hBl.size);have hc2:=(zA.cell (p:=⟨p,0,none⟩) hp).trans hc;have x1:=(hO.below hb2 hO.lt).cell 1;simp only[gl]at x1;clear hO;go_wp2_with fail;refine(HC.o _ zA).mono ?_;rintro e w3 ⟨rfl,rfl⟩;go_wp2;go_ret;exact⟨by simp,zA⟩
theorem VY (A:Option Addr)(n c:Nat)(l:List aB)(B:Option Addr)(m d:Nat)(ks:List Int)(w:World)(h:Reads w w.heap.size 5 A n (aQ l))(hn:n<=65536)(hk:Reads w w.heap.size 1 B m (ks.map (Value.int .u64)))(hm:m<=65536):
  Calls Tryz.prog 8 #[.slice A n c,.slice B m d] w (CW w (l.filter λo=> !cZ o.kind||ks.contains o.key)):=by
 have hBl:=(Below.refl w.heap.size w).alloc (zb _) (.cells #[.slice B m d] 25);have K8:=(aj.new w 25 #[.slice B m d]).cell 0;simp only[zr,zc]at K8
 have HK:=Kg A n c l _ 25 #[pQ w.heap.size] (λ_ o=> !cZ o.kind||ks.contains o.key) ((h.below hBl).more hBl.size) hn (enters_of Tryz.func25 (by kernel_rfl) rfl)
  (λW i o _ hW=>adK i o w.heap.size B m d ks W ((hW.cell (p:=⟨w.heap.size,0,none⟩) (by simp)).trans K8) (by have:=hW.size;simp at this;omega) (((hk.below hBl).more hBl.size|>.below hW).more hW.size) hm)
 rw[EU]at HK;have HK':=qd HK;clear HK h hk K8;go_in;go_wp2_with fail;refine HK'.o.mono ?_;rintro e w' ⟨v,rfl,hown,hb⟩;go_wp2;go_ret;exact⟨v,rfl,Aa hown (by simp),hBl.trans (hb.mono (by simp))⟩
section
variable {key : Int} {l : List aB}
attribute [local go_sem] k9
def opAt (l:List aB)(j:Nat):aB:=l[j]?.getD ⟨0,0,0,0,0⟩
def backs (l:List aB)(k:Nat):List (Nat×aB):=(List.range k).map λj=>(l.length-1-j,opAt l (l.length-1-j))
theorem Kh (l:List aB)(k:Nat):backs l (k+1)=backs l k++[(l.length-1-k,opAt l (l.length-1-k))]:=by simp[backs,List.range_succ]
theorem Ro (l:List aB)(k:Nat):(backs l k).length=k:=by simp[backs]
abbrev VZ (x:Nat×aB):Array Value:= #[nI x.1,.agg #[.int .i64 x.2.kind,.int .u64 x.2.key,.int .u64 x.2.val,.int .u64 x.2.hash,.int .i64 x.2.iter]]
theorem abT (F:Fence)(q:Nat)(hF:F.fn 88)(hro:F.round=none)(hq:1<=q)(lp Bs n₀:Nat)(A:Option Addr)(n c:Nat)(l:List aB)(hn:n<=65536)(Ld:Bs<n₀)(J Jx:List (Nat×aB)->World->Prop)(hY:∀pre x W,J pre W->pre.length<n->YieldAt F (q-1) Tryz.prog lp (VZ x) W λe W'=>
   (e= .returned (.bool true)/\J (pre++[x]) W'/\Below n₀ W W')\/(e= .returned (.bool false)/\Jx (pre++[x]) W')) (W:World) (Sy:W.cell? ⟨Bs,0,none⟩=some (.slice A n c)) (hR:Reads W n₀ 5 A n (aQ l)) (h0:J [] W):
  CallsIn F q Tryz.prog 88 #[.func (.yield lp) #[] #[],pQ Bs] W λe W'=>(∃v,e= .returned v)/\
   ((∃ys,ys=backs l l.length/\J ys W')\/(∃pre,(∃k,k<=l.length/\pre=backs l k)/\Jx pre W')):=by
 have hl:l.length=n:=by have:=hR.1;rw[dZ]at this;omega
 subst hl;refine callsIn_of_wp Tryz.func88 rfl hF ?_ hro;simp only[Tryz.ntmps88,xn,ZS,yv,Nat.reduceAdd,Nat.reduceSub,j0,j7,xo,JS,ya,yb]
 gi_wp2
 gi_loopw [3] (λi wr=>∃m:Nat,m<=l.length/\i= .int .i64 ((m:Int)-1)/\J (backs l (l.length-m)) wr/\Below n₀ W wr) (λi _=>(intOf i+1).toNat)
 case atStart=>exact⟨l.length,zb _,rfl,by rw[ve];exact h0,Below.refl _ _⟩
 case round=>
  obtain⟨m,hm,rfl,hJs,hnx⟩:=hrel;have aiI:=(hnx.cell (p:=⟨Bs,0,none⟩) Ld).trans Sy
  cases m with
  |zero=>
   rw[Nat.sub_zero]at hJs
   gi_wp2
   go_end0;exact⟨⟨_,rfl⟩,.inl ⟨_,rfl,hJs⟩⟩
  |succ m=>
   have ho:l[m]?=some (l[m]'(by omega)):=zg _
   have hat:opAt l m=l[m]'(by omega):=by unfold opAt;rw[ho];rfl
   generalize l[m]'(by omega)=o at ho hat;obtain⟨b,off,rfl,hb,c0,c1,c2,c3,c4⟩:=jE (hR.below hnx) ho
   have hsu:backs l (l.length-m)=backs l (l.length-(m+1))++[(m,o)]:=by
    rw[show l.length-m=(l.length-(m+1))+1 by omega,Kh,show l.length-1-(l.length-(m+1))=m by omega,hat]
   obtain⟨fn,tmps,assign,body,hy,xH⟩:=hY _ (m,o) wr hJs (by rw[Ro];omega);simp only[VZ]at hy xH;have HS:=qd hsu
   have hlt':(m:Int)<(l.length:Int):=by omega
   clear hsu hat ho
   gi_wp2
   refine xH.mono ?_;rintro e W3 (⟨rfl,hJ3,hk3⟩|⟨rfl,hJx3⟩)
   ·gi_wp2
    go_roundw
    case rel=>exact⟨m,by omega,by first|rfl|(congr 1<;>omega),by rw[HS.o];exact hJ3,hnx.trans hk3⟩
    case measure=>first|(simp[intOf];done)|(simp[intOf];omega)
   ·gi_wp2
    refine bodyPost_ret (vx rfl _ _ _) rfl ?_;exact⟨⟨_,rfl⟩,.inr ⟨_,⟨l.length-m,by omega,HS.o.symm⟩,hJx3⟩⟩
theorem adL (F:Fence)(q:Nat)(hF:F.fn 55)(hro:F.round=none)(a:Option Addr)(n c:Nat)(w:World):
  CallsIn F q Tryz.prog 55 #[.slice a n c] w λe w'=>e= .returned (.func (.func 88) #[] #[pQ w.heap.size])/\w'=w.alloc (.cells #[.slice a n c] 24):=by
 refine callsIn_of_wp Tryz.func55 rfl hF ?_ hro;simp only[Tryz.ntmps55,xn,ZS,yv,Nat.reduceAdd,Nat.reduceSub,j0,j7,xo,JS,ya,yb]
 gi_wp2
 go_ret;exact⟨rfl,rfl⟩
theorem V4 (F:Fence)(q:Nat)(hF:F.fn 88)(hro:F.round=none)(hq:1<=q)(Bs n₀:Nat)(A:Option Addr)(n c:Nat)(l:List aB)(hn:n<=65536)(w:World)(Ld:Bs<n₀)(hn₀:n₀<=w.heap.size)(hc:w.cell? ⟨Bs,0,none⟩=some (.slice A n c))(hR:Reads w n₀ 5 A n (aQ l)):
  SeqStopsK F q Tryz.prog 88 #[pQ Bs] VZ (Below n₀) (λys=>ys=backs l l.length) (λpre=>∃k,k<=l.length/\pre=backs l k) n w:=λlp J Jx W hW _ _ hY h0=>
 abT F q hF hro hq lp Bs n₀ A n c l hn Ld J Jx hY W ((hW.cell (p:=⟨Bs,0,none⟩) (by show Bs<w.heap.size;omega)).trans hc) (hR.below (hW.mono hn₀)) h0
def uH (key:Int)(l:List aB):Int:=match last key l with|some i=>(i:Int)|none=> -1
def FH (key:Int)(x:Nat×aB):Int:=if x.2.kind==5||(x.2.kind==3 && x.2.key==key)then-1 else(x.1:Int)
theorem GL (key:Int):∀(r:List aB),(∀o∈r,stops key o=false)->yh key r=none
 | [],_=>rfl
 |o::t,h=>by
  have h0:=h o (by simp);unfold stops at h0;simp only[kn]at h0;unfold yh;rw[if_neg (by rw[h0.1.1,h0.1.2];simp),if_neg (by rw[h0.2];simp)];exact GL key t λx hx=>h x (qu _ hx)
theorem Ki (key:Int)(o:aB)(t:List aB)(ho:stops key o=true):∀(r:List aB),(∀x∈r,stops key x=false)->
  yh key (r++o::t)=if o.kind==5||(o.kind==3 && o.key==key)then none else some t.length
 | [],_=>by
  rw[ya,yh];split
  ·rfl
  ·next h=>
   have hk:(o.kind==2 && o.key==key)=true:=by
    unfold stops at ho;rw[Bool.or_eq_true]at ho;rcases ho with ho|ho
    ·exact absurd ho h
    ·exact ho
   rw[if_pos hk]
 |x::r,h=>by
  have h0:=h x (by simp);unfold stops at h0;simp only[kn]at h0;rw[yb,yh,if_neg (by rw[h0.1.1,h0.1.2];simp),if_neg (by rw[h0.2];simp)];exact Ki key o t ho r λy hy=>h y (qu _ hy)
theorem Ni (l:List aB)(k:Nat)(hk:k<=l.length):(backs l k).map (·.2)=l.reverse.take k:=by
 apply List.ext_getElem
 ·simp[backs];omega
 ·intro i h1 h2
  have hi:i<k:=by simpa[backs]using h1
  have hj:l.length-1-i<l.length:=by omega
  simp[backs,opAt,hj]
theorem V5 (h:∀x∈backs l l.length,stops key x.2=false):uH key l= -1:=by
 unfold uH last;rw[GL key l.reverse λo ho=> ?_];have e:=Ni l l.length (zb _);rw[ym (by simp)]at e;rw[<-e]at ho;obtain⟨x,hx,rfl⟩:=Z3.1 ho;exact h x hx
theorem V6 {k:Nat}{pre':List (Nat×aB)}{x:Nat×aB}(hk:k<=l.length)(he:pre'++[x]=backs l k)(h:∀y∈pre',stops key y.2=false)(hx:stops key x.2=true):uH key l=FH key x:=by
 cases k with
 |zero=>simp[backs]at he
 |succ k=>
  rw[Kh]at he;obtain⟨h1,h2⟩:=List.append_inj' he rfl
  injection h2 with h2 _
  subst h1 h2
  have hj:l.length-1-k<l.length:=by omega
  have hrev:l.reverse=(backs l k).map (·.2)++opAt l (l.length-1-k)::l.reverse.drop (k+1):=by
   rw[Ni l k (by omega)]
   have hkr:k<l.reverse.length:=by simp;omega
   have hg:opAt l (l.length-1-k)=l.reverse[k]:=by simp[opAt,hj]
   rw[hg,<-ke hkr,JP]
  have hl:=Ki key (opAt l (l.length-1-k)) (l.reverse.drop (k+1)) hx ((backs l k).map (·.2)) (λo ho=>by
   obtain⟨y,hy,rfl⟩:=Z3.1 ho
   exact h y hy)
  rw[<-hrev]at hl;unfold uH last FH;rw[hl];clear hl hrev he hx h;dsimp only;generalize opAt l (l.length-1-k)=o;by_cases hc:(o.kind==5||(o.kind==3 && o.key==key))=true
  ·rw[if_pos hc,if_pos hc]
  ·rw[if_neg hc,if_neg hc];simp only[JT,List.length_reverse];omega
theorem Kj (A:Option Addr)(n c:Nat)(l:List aB)(key:Int)(w:World)(h:Reads w w.heap.size 5 A n (aQ l))(hn:n<=65536):
  Calls Tryz.prog 29 #[.slice A n c,.int .u64 key] w λe w'=>e= .returned (.int .i64 (uH key l))/\Below w.heap.size w w':=by
 refine(vu (n:=10)).1 ?_
 have h1:1<=10:=by omega
 refine callsIn_of_wp_marks Tryz.func29 rfl trivial ?_ rfl;simp only[Tryz.ntmps29,xn,ZS,yv,Nat.reduceAdd,Nat.reduceSub,j0,j7,xo,JS,ya,yb]
 gi_wp2_with (refine⟨trivial, ?_⟩;gi_at_call 55;refine(adL Fence.wide (10-1) trivial rfl _ _ _ _).mono ?_;rintro e w' ⟨rfl,rfl⟩)
 have bK:=((Boxed.new w 37 (.int .u64 key)).alloc (.cells #[.int .i64 0] 3)).alloc (.cells #[.slice A n c] 24);have bR:=(Boxed.new (w.alloc (.cells #[.int .u64 key] 37)) 3 (.int .i64 0)).alloc (.cells #[.slice A n c] 24);have bA:=Boxed.new ((w.alloc (.cells #[.int .u64 key] 37)).alloc (.cells #[.int .i64 0] 3)) 24 (.slice A n c);simp only[xN]at bR bA;have hB0:Below w.heap.size w (((w.alloc (.cells #[.int .u64 key] 37)).alloc (.cells #[.int .i64 0] 3)).alloc (.cells #[.slice A n c] 24)):=(((Below.refl _ w).alloc (zb _) _).alloc (by simp) _).alloc (by simp;omega) _
 have hsz:(((w.alloc (.cells #[.int .u64 key] 37)).alloc (.cells #[.int .i64 0] 3)).alloc (.cells #[.slice A n c] 24)).heap.size=w.heap.size+3:=by simp
 obtain⟨W0,hW0⟩:∃W0,((w.alloc (.cells #[.int .u64 key] 37)).alloc (.cells #[.int .i64 0] 3)).alloc (.cells #[.slice A n c] 24)=W0:=⟨_,rfl⟩;rw[hW0]at bK bR bA hB0 hsz|-;clear hW0;have hR0:Reads W0 W0.heap.size 5 A n (aQ l):=(h.below hB0).more (by omega)
 gi_wp2
 refine wpIn_rangeFunc_ownH rfl h1 (gf:=88) (lb:= #[.pointer (some ⟨w.heap.size+1+1,0,none⟩)]) rfl trivial (enters_of Tryz.func88 (by kernel_rfl) rfl)
  (V4 Fence.wide (10-1) trivial rfl (by omega) (w.heap.size+1+1) W0.heap.size A n c l hn W0 (by omega) (zb _) bA.cell hR0) belowK_t (belowK_b (zb _)) (Below.refl _ _) (λ_=>rfl)
  (λpre W=>(((∀x∈pre,stops key x.2=false)/\Boxed W (w.heap.size+1) 3 (.int .i64 0))/\Boxed W w.heap.size 37 (.int .u64 key))/\Below W0.heap.size W0 W)
  (λc pre W=>(c= .ret/\∃pre' x,pre=pre'++[x]/\(∀y∈pre',stops key y.2=false)/\stops key x.2=true/\Boxed W (w.heap.size+1) 3 (.int .i64 (FH key x)))/\Below w.heap.size w W)
  (OwnFrom.and (OwnFrom.and (OwnFrom.and (λ_ _ _ _ hs _ _=>hs) (Own.from (boxed_own _ _ _) _)) (Own.from (boxed_own _ _ _) _)) (ownFrom_below (zb _) (zb _)))
  (λc=>OwnFrom.and (λ_ X Y row hs hg hr=>by
   obtain⟨h0,pre',x,h2,h3,h4,h5⟩:=hs
   exact⟨h0,pre',x,h2,h3,h4,boxed_own (w.heap.size+1) 3 (λ(_:Unit)=>Value.int .i64 (FH key x)) () X Y row h5 hg (λr e=>(hr r e).2)⟩) (ownFrom_below (zb _) (by omega)))
  ⟨⟨⟨by simp,bR⟩,bK⟩,Below.refl _ _⟩
  (λx a' W=>∃Bx,(W.cell? ⟨Bx,0,none⟩=some (.int .i64 x.2.kind)/\W.cell? ⟨Bx,1,none⟩=some (.int .u64 x.2.key))/\a'={tmps:= #[.slice A n c,.int .u64 key,undef,pQ w.heap.size,.pointer (some ⟨w.heap.size+1,0,none⟩),nI x.1,pQ Bx,.slice A n c,.func (.func 88) #[] #[.pointer (some ⟨w.heap.size+1+1,0,none⟩)],nI x.1,.agg #[.int .i64 x.2.kind,.int .u64 x.2.key,.int .u64 x.2.val,.int .u64 x.2.hash,.int .i64 x.2.iter],undef,undef,undef,undef,undef,undef,undef,undef,undef,undef,undef,undef,undef,undef,undef,undef,undef,undef,undef,undef,undef,undef,undef,undef],defers:=[]})
  (λx a' _ X Y row hs hg hr=>by
   obtain⟨Bx,⟨e1,e2⟩,e3⟩:=hs
   exact⟨Bx,⟨cell_kept e1 hg (λr e=>(hr r e).2),cell_kept e2 hg (λr e=>(hr r e).2)⟩,e3⟩)
  ?assign ?body ?done ?stop
 case assign=>
  rintro lp pre x W K ⟨⟨⟨hp,wD⟩,TY⟩,hB1⟩ hK;have hO:=aj.new W 45 #[.int .i64 x.2.kind,.int .u64 x.2.key,.int .u64 x.2.val,.int .u64 x.2.hash,.int .i64 x.2.iter];obtain⟨x0,x1⟩:=hO.c2
  gi_wp2
  exact hK _ _ ((KeepsOthers.alloc _ _).from _) ((Below.refl _ W).alloc hB1.size _) ⟨⟨⟨hp,wD.alloc _⟩,TY.alloc _⟩,hB1.alloc hB1.size _⟩ ⟨W.heap.size,⟨x0,x1⟩,rfl⟩
 case body=>
  rintro lp pre x a' W hl ⟨r,hr⟩ ⟨⟨⟨hp,wD⟩,TY⟩,hB1⟩ ⟨Bx,⟨c0,c1⟩,rfl⟩ hlt;have cK:=TY.cell;have cR:=wD.cell;have fR:=wD.frozen;have HGo:=qd (λ(hs:stops key x.2=false)=>show∀y∈pre++[x],stops key y.2=false from λy hy=>(Zs.1 hy).elim (hp y) (λe=>by simp at e;subst e;exact hs));have iV:=qd (show stops key x.2=((x.2.kind==5)||((x.2.kind==3) && (x.2.key==key))||((x.2.kind==2) && (x.2.key==key)))from rfl);have V7:=qd (show FH key x=if((x.2.kind==5)||((x.2.kind==3) && (x.2.key==key)))=true then-1 else(x.1:Int)from rfl);have hbel:=hB0.trans (hB1.mono hB0.size);have HP:=qd hp;clear hp;obtain⟨xi,o⟩:=x;dsimp only at c0 c1 iV V7 HGo
  cases h5:(o.kind==5)with
  |true=>
   gi_wp2
   exact⟨(KeepsOthers.setCell _ _ _).from _,⟨rfl,pre,_,rfl,HP.o,by rw[iV.o,h5];rfl,by rw[V7.o,h5];exact wD.set _⟩,hbel.setCell (p:=⟨w.heap.size+1,0,none⟩) (by simp) _⟩
  |false=>
   cases hk:(o.key==key)with
   |true=>
    cases h3:(o.kind==3)with
    |true=>
     gi_wp2
     exact⟨(KeepsOthers.setCell _ _ _).from _,⟨rfl,pre,_,rfl,HP.o,by rw[iV.o,h5,h3,hk];rfl,by rw[V7.o,h5,h3,hk];exact wD.set _⟩,hbel.setCell (p:=⟨w.heap.size+1,0,none⟩) (by simp) _⟩
    |false=>
     cases h2:(o.kind==2)with
     |true=>
      gi_wp2
      exact⟨(KeepsOthers.setCell _ _ _).from _,⟨rfl,pre,_,rfl,HP.o,by rw[iV.o,h5,h3,h2,hk];rfl,by rw[V7.o,h5,h3,hk];exact wD.set _⟩,hbel.setCell (p:=⟨w.heap.size+1,0,none⟩) (by simp) _⟩
     |false=>
      gi_wp2
      exact⟨KeepsFrom.refl _ _,Below.refl _ _,⟨⟨⟨HGo.o (by rw[iV.o,h5,h3,h2];rfl),wD⟩,TY⟩,hB1⟩⟩
   |false=>
    cases h3:(o.kind==3)
    case' true=>
     have h2:(o.kind==2)=false:=by rw[x7]at h3;rw[h3];rfl
    case' false=>
     cases h2:(o.kind==2)
     case' true=>
      skip
     case' false=>
      skip
    all_goals
     gi_wp2
     exact⟨KeepsFrom.refl _ _,Below.refl _ _,⟨⟨⟨HGo.o (by rw[iV.o,h5,hk];simp),wD⟩,TY⟩,hB1⟩⟩
 case done=>
  rintro D ys W hD rfl ⟨⟨⟨hp,wD⟩,TY⟩,hB1⟩ hK;have cR:=wD.cell;have fR:=wD.frozen
  gi_wp2
  have hK':=(KeepsOthers.setCell W ⟨w.heap.size+1,0,none⟩ (.int .i64 (-1))).same D _ hK rfl;refine⟨by simp,.inl ⟨_,_,rfl,run_takeDeferred hK', ?_⟩⟩;have xI:=cell_kept (wD.set (.int .i64 (-1))).cell (grownBy_putObj' _ D (.deferred none)) (λr e=>by cases e;exact⟨_,hK',rfl⟩);refine⟨.int .i64 (-1), ?_,by rw[V5 hp],((hB0.trans (hB1.mono hB0.size)).setCell (p:=⟨w.heap.size+1,0,none⟩) (by simp) _).trans (belowK_b (w:=w) (zb _) _ D _ _ (by omega) hK' rfl rfl)⟩;simp[results,Tryz.f29,go_sem,xI]
 case stop=>
  rintro D c pre W hD ⟨k,hk,rfl⟩ ⟨⟨rfl,pre',x,he,hp,hx,wD⟩,hB1⟩ hK
  gi_wp2
  refine⟨by simp,.inl ⟨_,_,rfl,run_takeDeferred hK, ?_⟩⟩;have xI:=cell_kept wD.cell (grownBy_putObj' _ D (.deferred none)) (λr e=>by cases e;exact⟨_,hK,rfl⟩);refine⟨.int .i64 (FH key x), ?_,by rw[V6 hk he.symm hp hx],hB1.trans (belowK_b (w:=w) (zb _) W D _ _ (by omega) hK rfl rfl)⟩;simp[results,Tryz.f29,go_sem,xI]
end
theorem abU (key:Int)(l:List aB)(i:Nat):(uH key l==(i:Int))=(last key l==some i):=by
 unfold uH
 cases last key l with
 |none=>
  rw[xy];simp
 |some j=>
  rw[xy];simp;omega
theorem Za (i:Nat)(o:aB)(p:Nat)(A:Option Addr)(n c:Nat)(l:List aB)(W:World)(hc:W.cell? ⟨p,0,none⟩=some (.slice A n c))(hp:p<W.heap.size)(hR:Reads W W.heap.size 5 A n (aQ l))(hn:n<=65536):
  Calls Tryz.prog 28 #[nI i,oq o,pQ p] W (Nh W (o.kind==2 && last o.key l==some i)):=by
 rw[<-abU];unfold oq;have hBl:=(Below.refl W.heap.size W).alloc (zb _) (.cells #[.int .i64 o.kind,.int .u64 o.key,.int .u64 o.val,.int .u64 o.hash,.int .i64 o.iter] 45);have hc2:=(hBl.cell (p:=⟨p,0,none⟩) hp).trans hc;have HL:=qd (Kj A n c l o.key _ ((hR.below hBl).more hBl.size) hn);clear hR
 cases h2:(o.kind==2)with
 |false=>
  go_in;go_wp2;go_ret;exact⟨by simp,hBl⟩
 |true=>
  go_in;go_wp2_with fail;refine HL.o.mono ?_;rintro e w3 ⟨rfl,hb3⟩;go_wp2;go_ret;exact⟨by simp,hBl.trans (hb3.mono hBl.size)⟩
theorem Fh (A:Option Addr)(n c:Nat)(l:List aB)(w:World)(h:Reads w w.heap.size 5 A n (aQ l))(hn:n<=65536):
  Calls Tryz.prog 9 #[.slice A n c] w (CW w (shrink l)):=by
 have hBl:=(Below.refl w.heap.size w).alloc (zb _) (.cells #[.slice A n c] 24);have K8:=(aj.new w 24 #[.slice A n c]).cell 0;simp only[zr,zc]at K8
 have HK:=Kg A n c l _ 28 #[pQ w.heap.size] (λi o=>o.kind==2 && last o.key l==some i) ((h.below hBl).more hBl.size) hn (enters_of Tryz.func28 (by kernel_rfl) rfl)
  (λW i o _ hW=>Za i o w.heap.size A n c l W ((hW.cell (p:=⟨w.heap.size,0,none⟩) (by simp)).trans K8) (by have:=hW.size;simp at this;omega) (((h.below hBl).more hBl.size|>.below hW).more hW.size) hn)
 rw[R4]at HK;have HK':=qd HK;clear HK h;go_in;go_wp2_with fail;refine HK'.o.mono ?_;rintro e w' ⟨v,rfl,hown,hb⟩;go_wp2;go_ret;exact⟨v,rfl,Aa hown (by simp),hBl.trans (hb.mono (by simp))⟩
theorem Af (A:Option Addr)(n c:Nat)(l:List aB)(key:Int)(o:aB)(i:Nat)(w:World)(h:Reads w w.heap.size 5 A n (aQ l))(hn:n<=65536)(hi:uH key l=(i:Int))(ho:l[i]?=some o):
  Calls Tryz.prog 10 #[.slice A n c,.int .u64 key] w λe w'=>e= .returned (.tuple #[.int .u64 o.val,.bool true])/\Below w.heap.size w w':=by
 have hl:l.length=n:=by have:=h.1;rw[dZ]at this;omega
 have hil:=(zz.1 ho).1;have HL:=qd (Kj A n c l key w h hn);have HI:=qd hi;obtain⟨b,off,rfl,hb,c0,c1,c2,c3,c4⟩:=jE h ho
 have hlt:(i:Int)<(n:Int):=by omega
 have h0:¬(i:Int)<0:=by omega
 clear h ho hi;go_in;go_wp2_with fail;refine HL.o.mono ?_;rintro e w3 ⟨rfl,hb3⟩;rw[HI.o];have c2':=(hb3.cell (p:=⟨b,off+i*5+2,none⟩) hb).trans c2;go_wp2;go_ret2;exact⟨rfl,hb3⟩
def Oj:List aB:=[⟨2,1,0,0,0⟩,⟨2,2,5,0,0⟩,⟨3,1,0,0,0⟩]
theorem adM (w:World):Calls Tryz.prog 4 #[] w λe w'=>e= .returned (.bool true)/\Below w.heap.size w w':=by
 obtain⟨W,hW⟩:∃W,W=w.alloc (.cells #[.int .i64 2,.int .u64 1,.int .u64 0,.int .u64 0,.int .i64 0,.int .i64 2,.int .u64 2,.int .u64 5,.int .u64 0,.int .i64 0,.int .i64 3,.int .u64 1,.int .u64 0,.int .u64 0,.int .i64 0] 45):=⟨_,rfl⟩
 have hBl:Below w.heap.size w W:=by rw[hW];exact(Below.refl _ _).alloc (zb _) _
 have hB:aj W w.heap.size 45 (aQ Oj).toArray:=by rw[hW];exact aj.new w _ _
 have hR:Reads W W.heap.size 5 (some ⟨w.heap.size,0,none⟩) 3 (aQ Oj):=⟨rfl,λ_=>⟨w.heap.size,0,rfl,hB.lt,λj u hu=>by
  have:=hB.cell j;rw[zr,hu]at this
  simpa using this⟩⟩
 have HS:=qd (show Calls Tryz.prog 9 #[.slice (some ⟨w.heap.size,0,none⟩) 3 3] W (CW W [⟨2,2,5,0,0⟩])from Fh (some ⟨w.heap.size,0,none⟩) 3 3 Oj W hR (by omega));have HL:=qd (λ(V:World) (hV:Below W.heap.size W V)=>Af (some ⟨w.heap.size,0,none⟩) 3 3 Oj 2 ⟨2,2,5,0,0⟩ 1 V ((hR.below hV).more hV.size) (by omega) (by decide) rfl);have HW:=qd hW;go_in;go_wp2_with fail;rw[<-HW.o];refine HS.o.mono ?_;rintro e w1 ⟨v,rfl,hown,hb1⟩;obtain⟨A1,c1,rfl⟩:=bq hown;go_wp2_with fail;refine(HL.o _ hb1).mono ?_;rintro e w2 ⟨rfl,hb2⟩;have zA:=hb1.trans (hb2.mono hb1.size);obtain⟨b,off,rfl,hb,c0,c1',c2,c3,c4⟩:=jE ((Reads.jy hown).below hb2) (k:=0) (o:=⟨2,2,5,0,0⟩) rfl;obtain⟨b',off',he,hb',d0,d1,d2,d3,d4⟩:=jE (hR.below zA) (k:=1) (o:=⟨2,2,5,0,0⟩) rfl
 injection he with he
 injection he with he1 he2 _
 subst he1 he2;simp only[Nat.zero_mul,Nat.one_mul,ky,yz]at c0 c1' c2 c3 c4 d0 d1 d2 d3 d4;have hbw:=hBl.trans (zA.mono hBl.size);clear hown hR HS HL hB hW HW;go_wp2_with fail;go_quiet (fail);go_wp2;go_ret;exact⟨rfl,below_drewN hbw _⟩
section
variable {o : aB} {w w' : World} {r : Option Nat}
theorem Ob (h:o.kind<1\/8<o.kind\/o.iter<0\/1000000<o.iter\/(o.kind<7/\o.iter≠0)):fU o=false:=by
 rw[<-Bool.not_eq_true];intro e;unfold fU isKind zZ at e;simp at e;omega
theorem Kl (h1:1<=o.kind)(h8:o.kind<=8)(h0:0<=o.iter)(hm:o.iter<=1000000)(h7:7<=o.kind\/o.iter=0)(b:Bool)(hb:b=((decide (o.kind<4)||(o.key==0 && o.hash==0)) && (o.kind==2||o.val==0))):b=fU o:=by
 have hk:cZ o.kind=decide (o.kind<4):=by rw[<-QT];unfold QS;simp;omega
 have hi:(zZ o.kind||o.iter==0)=true:=by
  unfold zZ;simp;omega
 have hik:isKind o.kind=true:=by unfold isKind;simp;omega
 unfold fU;rw[hb,hik,hk,hi];simp[h0,hm]
theorem Zb {X R:Bool}(h:X=R):Ending.returned (Value.bool X)=Ending.returned (Value.bool R):=by rw[h]
theorem Si (o:aB)(w:World):Calls Tryz.prog 30 #[oq o] w λe w'=>e= .returned (.bool (fU o))/\w.alloc (.cells #[.int .i64 o.kind,.int .u64 o.key,.int .u64 o.val,.int .u64 o.hash,.int .i64 o.iter] 47)=w':=by
 unfold oq;obtain⟨R,hR⟩:∃R,fU o=R:=⟨_,rfl⟩;have HR:=qd hR;rw[hR];clear hR;have hI:∃z:Bool,(o.iter !=0)=z/\(z=true↔¬o.iter=0):=⟨_,rfl,by simp⟩;obtain⟨z,hz,hzi⟩:=hI;have HI:=qd hzi;clear hzi;cases z
 all_goals
  go_in;go_wp2
  all_goals
   go_ret;have hq:=HI.o;simp only[true_iff,false_iff,yd,Decidable.not_not]at hq;refine⟨?_,by simp[*]⟩;rw[<-HR.o];refine Zb ?_
   first
    |exact(Ob (by omega)).symm
    |(refine Kl (by omega) (by omega) (by omega) (by omega) (by omega) _ ?_;simp[*];done)
    |(refine Kl (by omega) (by omega) (by omega) (by omega) (by omega) _ ?_;rw[xy];simp;omega)
def Ag (w:World)(r:Option Nat)(e:Ending)(w':World):Prop:=
 (match r with
  |some i=>e= .returned (nI i)
  |none=>e= .returned (.int .i64 (-1)))/\Below w.heap.size w w'
theorem Zc {i:Nat}(h:r=some i)(hb:Below w.heap.size w w'):Ag w r (.returned (nI i)) w':=by
 subst h;exact⟨rfl,hb⟩
theorem Zd (h:r=none)(hb:Below w.heap.size w w'):Ag w r (.returned (.int .i64 (-1))) w':=by
 subst h;exact⟨rfl,hb⟩
structure Clear (l:List aB)(o:aB)(j:Nat):Prop where
 none:(l.take j).any (clash o)=false
theorem Nj (k:Int):cZ k=(decide (0<k) && decide (k<4)):=(QT k).symm
theorem Ze (A:Option Addr)(n c:Nat)(l:List aB)(w:World)(h:Reads w w.heap.size 5 A n (aQ l))(hn:n<=65536)(hcap:n<=c):
  Calls Tryz.prog 31 #[.slice A n c] w (Ag w (other l)):=by
 have hl:l.length=n:=by have:=h.1;rw[dZ]at this;omega
 generalize hR:other l=R;have HR:=qd (show kK (l.take 0) (l.drop 0)=R from by simpa[other]using hR);clear hR;go_in;go_wp2;go_loopw [2,3,4,6,9] (λ_ _ _ _ i wr=>∃k:Nat,k<=n/\i= .int .i64 k/\kK (l.take k) (l.drop k)=R/\Below w.heap.size w wr) (λ_ _ _ _ i _=>n-(intOf i).toNat)
 case atStart=>exact⟨0,by omega,rfl,HR.o,Below.refl _ _⟩
 case round=>
  obtain⟨k,hk,rfl,hrest,hB⟩:=hrel;obtain⟨wo,rfl⟩:∃wo:World,wo=wr:=⟨_,rfl⟩;by_cases hlt:k<n
  ·have ho:l[k]?=some (l[k]'(by omega)):=zg _;generalize l[k]'(by omega)=o at ho;obtain⟨b,off,rfl,hb,c0,c1,c2,c3,c4⟩:=jE (h.below hB) ho;rw[TR ho,kK]at hrest;have htk:=iy ho
   have hlen:(l.take k).length=k:=by rw[qn];omega
   rw[hlen,<-htk]at hrest;have mP:=qd hrest
   have hlt':(k:Int)<(n:Int):=by omega
   have hsl:∀W,(Instr.slice 46 (.slice (some ⟨b,off,none⟩) n c) none (some (nI k)) none).run Tryz.prog W= .ok (.slice (some ⟨b,off,none⟩) k c) W:=ZT (size:=5) Tryz.underlying46 (λ_=>by kernel_rfl) _ n c k (by omega)
   have hzr:wo.heap.size<(wo.alloc (.cells #[.int .i64 o.kind,.int .u64 o.key,.int .u64 o.val,.int .u64 o.hash,.int .i64 o.iter] 47)).heap.size:=by simp
   have hO:=aj.new wo 47 #[.int .i64 o.kind,.int .u64 o.key,.int .u64 o.val,.int .u64 o.hash,.int .i64 o.iter];have J2:=hB.alloc hB.size (.cells #[.int .i64 o.kind,.int .u64 o.key,.int .u64 o.val,.int .u64 o.hash,.int .i64 o.iter] 47);clear hrest htk hlen ho;go_wp2;obtain⟨W,hW⟩:∃W,W=wo.alloc (.cells #[.int .i64 o.kind,.int .u64 o.key,.int .u64 o.val,.int .u64 o.hash,.int .i64 o.iter] 47):=⟨_,rfl⟩;rw[<-hW]at hO J2 hzr|-;clear hW c0 c1 c2 c3 c4;go_loopw [2,6,18] (λ_ _ i wr=>∃j:Nat,j<=k/\i= .int .i64 j/\Clear l o j/\Below W.heap.size W wr) (λ_ _ i _=>k-(intOf i).toNat)
   case atStart=>exact⟨0,by omega,rfl,⟨rfl⟩,Below.refl _ _⟩
   case round=>
    obtain⟨j,hj,rfl,⟨hany⟩,Nk⟩:=hrel;by_cases hjt:j<k
    ·have hx:l[j]?=some (l[j]'(by omega)):=zg _;generalize l[j]'(by omega)=x at hx;have hBw:=J2.trans (Nk.mono J2.size);obtain⟨b',off',e',hb',d0,d1,d2,d3,d4⟩:=jE (h.below hBw) hx
     obtain⟨rfl,rfl⟩:b'=b/\off'=off:=by injection e' with e';injection e' with e1 e2;exact⟨e1.symm,e2.symm⟩
     have hOi:=hO.below Nk hzr;have a0:∀p,(wr.alloc p).cell? ⟨wo.heap.size,0,none⟩=some (.int .i64 o.kind):=λp=>(hOi.alloc p).cell 0;have a1:∀p,(wr.alloc p).cell? ⟨wo.heap.size,1,none⟩=some (.int .u64 o.key):=λp=>(hOi.alloc p).cell 1;have a3:∀p,(wr.alloc p).cell? ⟨wo.heap.size,3,none⟩=some (.int .u64 o.hash):=λp=>(hOi.alloc p).cell 3
     have hts:(l.take (j+1)).any (clash o)=clash o x:=by rw[iy hx,kq,hany];simp
     have hmem:x∈l.take k:=by
      have:(l.take k)[j]?=some x:=by rw[X1];rw[if_pos hjt];exact hx
      exact zE this
     have aiJ:(j:Int)<(k:Int):=by omega
     have Hts:=qd hts;clear hany e' hx hts hO hOi;have hBx:=Nk.alloc Nk.size (.cells #[.int .i64 x.kind,.int .u64 x.key,.int .u64 x.val,.int .u64 x.hash,.int .i64 x.iter] 47);have agP:=hBw.alloc hBw.size (.cells #[.int .i64 x.kind,.int .u64 x.key,.int .u64 x.val,.int .u64 x.hash,.int .i64 x.iter] 47);by_cases hcl:clash o x=true
     ·have HE:=qd (show R=some k from by
       have:=mP.o;rw[if_pos (QR.2 ⟨x,hmem,hcl⟩)]at this
       exact this.symm)
      simp only[clash,Nj,yk,Kf]at hcl;obtain⟨⟨⟨⟨o1,o2⟩,x1,x2⟩,hkey⟩,aht⟩:=hcl;clear mP Nk hBw;go_wp2;go_ret;exact Zc HE.o agP
     ·have Hcl:=qd hcl;have HF:Clear l o (j+1):=⟨by rw[Hts.o];simpa using hcl⟩;clear hcl Nk hBw mP;go_wp2
      all_goals first
       |exact⟨⟨j+1,by omega,by go_num,HF,hBx⟩,by simp[intOf];omega⟩
       | (exfalso
          have:=Hcl.o
          simp_all[clash,Nj];done)
       | (have hky : o.key = x.key := by assumption
          rw[hky];go_roundw
          case rel=>exact⟨j+1,by omega,by go_num,HF,hBx⟩
          case measure=>simp[intOf];omega)
    ·obtain rfl:j=k:=by omega
     have HE:=qd (show kK (l.take (j+1)) (l.drop (j+1))=R from by
      have:=mP.o;rw[hany]at this
      simpa using this)
     have hBw:=J2.trans (Nk.mono J2.size);clear mP hO J2 Nk hany;go_wp2;go_roundw
     case rel=>exact⟨j+1,by omega,by go_num,HE.o,hBw⟩
     case measure=>simp[intOf];omega
  ·obtain rfl:k=n:=by omega
   rw[List.drop_eq_nil_of_le (by omega),kK]at hrest;have mP:=qd hrest;clear hrest;go_wp2;go_ret;exact Zd mP.o.symm hB
theorem abV (o:aB)(w:World):Calls Tryz.prog 12 #[oq o] w λe w'=>e= .returned (oq o)/\Below w.heap.size w w':=by
 unfold oq;go_in;go_wp2;refine bodyPost_ret (v:= .agg #[.int .i64 o.kind,.int .u64 o.key,.int .u64 o.val,.int .u64 o.hash,.int .i64 o.iter]) (by simp[results,Tryz.results12,go_sem]) rfl ⟨rfl, ?_⟩
 repeat (with_reducible first|exact Below.refl _ _|refine Below.drew ?_|refine Below.setCell ?_ ?_ _|refine Below.alloc ?_ ?_ _)
 all_goals simp
end
