/- FmapActs: what a map of floats answers, act by act: the walk. -/
import Derived.Deep.CutBlock
import Derived.Test.YtnfjjbpmhcbelaaGreatDoorSqM
import Derived.Test.YtnfjjbpmhcbelaaGreatDoorAppAny
import Derived.Test.YtnfjjbpmhcbelaaGreatDoorGaugeA
import Derived.Test.YtnfjjbpmhcbelaaGreatDoorTabV
import Derived.Test.YtnfjjbpmhcbelaaGreatDoorRmZ
namespace Go.Proofs.YtnfjjbpmhcbelaaGreatDoor
set_option maxRecDepth 100000
set_option maxHeartbeats 16000000
open Go.RowKit dI ru kM
variable {bs c5 gv : Nat} {A5 : Option Addr} {W W' : World}
theorem Ul (E:Nat→Addr)(l:PL):∃f0 e0,Xw E l= .tuple #[.float .f64 f0,e0]∧((l=[]∧f0=0∧e0= .iface 351 (.pointer (some (E 12))))∨(∃p l',l=p::l'∧f0=pV p.1∧e0= .nilIface)):=by
 cases l with
 |nil=>exact⟨_,_,rfl,.inl ⟨rfl,rfl,rfl⟩⟩
 |cons p l=>exact⟨_,_,rfl,.inr ⟨p,l,rfl,rfl,rfl⟩⟩
def zy (w:World)(E:Nat→Addr)(K M I fb b wb bs c5:Nat)(A5:Option Addr)(G:List Nat)(R:Nat→Option Nat)(n:Nat)(l:PL)(gv:Nat)(W:World):Prop:=
 dS w E K M I fb b G W R n [] gv∧pY W w.heap.size wb M G l∧gW bs W 62 2 (.slice A5 l.length c5) l.length (l.flatMap fC) G∧(∀q∈G,w.heap.size≤q)∧Below w.heap.size w W
theorem zy.at_ {w:World}{E:Nat→Addr}{K M I fb b wb:Nat}{G:List Nat}{R:Nat→Option Nat}{n:Nat}{l:PL}(h:zy w E K M I fb b wb bs c5 A5 G R n l gv W)(hb:Below W.heap.size W W'):zy w E K M I fb b wb bs c5 A5 G R n l gv W':=
 ⟨h.1.below hb,h.2.1.below hb,h.2.2.1.below hb,h.2.2.2.1,h.2.2.2.2.trans (hb.mono h.2.2.2.2.size)⟩
theorem zy.to {w:World}{E:Nat→Addr}{K M I fb b wb:Nat}{G G':List Nat}{R:Nat→Option Nat}{n:Nat}{l:PL}{yL:Nat}(h:zy w E K M I fb b wb bs c5 A5 G R n l gv W)(hA:dS w E K M I fb b G' W' R n [] yL)(hs:∀q∈G',q∈G∨W.heap.size≤q)(hm:Mod G W W'):zy w E K M I fb b wb bs c5 A5 G' R n l yL W':=
 ⟨hA,h.2.1.mod hm hs,h.2.2.1.to hs hm,fun q hq=>(hs q hq).elim (h.2.2.2.1 q) (fun k=>Nat.le_trans h.2.2.2.2.size k),h.2.2.2.2.trans (hm.below h.2.2.2.1 h.2.2.2.2.size)⟩
theorem aah {k m i:Int}(h:oD k m i=true):∃K M I:Nat,(1≤K∧K≤64)∧(1≤M∧M≤192)∧k=(K:Int)∧m=(M:Int)∧i=(I:Int):=by
 unfold oD Av at h;simp at h;exact⟨k.toNat,m.toNat,i.toNat,by omega,by omega,by omega,by omega,by omega⟩
structure ow where
 kind:Int
 f:Nat
 v:Nat
def ow.cells (a:ow):List Value:=[.int .i64 a.kind,.float .f64 a.f,.float .f64 a.v]
theorem El (l:List ow):(l.flatMap ow.cells).length=l.length*3:=by
 induction l with
 |nil=>rfl
 |cons x l ih=>simp only[List.flatMap_cons,List.length_append,List.length_cons,ih];simp[ow.cells];omega
theorem BX (l:List ow):∀(i:Nat) (a:ow),l[i]?=some a→∀j,j<3→(l.flatMap ow.cells)[i*3+j]?=a.cells[j]?:=by
 induction l with
 |nil=>intro i a h;simp at h
 |cons x l ih=>
  intro i a h j hj;rw[List.flatMap_cons]
  cases i with
  |zero=>
   simp at h;subst h;rw[List.getElem?_append_left (by simp[ow.cells];omega),Nat.zero_mul,Nat.zero_add]
  |succ i=>
   rw[List.getElem?_append_right (by simp[ow.cells];omega),show(i+1)*3+j-x.cells.length=i*3+j by simp[ow.cells];omega];exact ih i a (by simpa using h) j hj
structure lZ (w:World)(E:Nat→Addr)(K M I fb b wb bx:Nat)(cs:Array Value)(w':World)(G:List Nat)(R:Nat→Option Nat)(n:Nat)(l:PL):Prop where
 fm:dS w E K M I fb b G w' R n [] 0
 ref:pY w' w.heap.size wb M G l
 box:aj w' bx 40 cs
 apart:bx∉G∧bx≠wb∧w.heap.size≤bx
 low:∀q∈G,w.heap.size≤q
 below:Below w.heap.size w w'
section
variable {w : World} {E : Nat → Addr} {K M I fb b wb bx : Nat} {cs : Array Value} {w1 w2 : World} {G : List Nat} {R R' : Nat → Option Nat} {n n' : Nat} {l l' : PL}
theorem lZ.at_ (h:lZ w E K M I fb b wb bx cs w1 G R n l)(hb:Below w1.heap.size w1 w2):lZ w E K M I fb b wb bx cs w2 G R n l:=
 ⟨h.fm.below hb,h.ref.below hb,h.box.below hb h.box.lt,h.apart,h.low,h.below.trans (hb.mono h.below.size)⟩
theorem lZ.to (h:lZ w E K M I fb b wb bx cs w1 G R n l)(ht:lY w E K M I fb b G w1 w2 R' n' [] 0):∃G',lZ w E K M I fb b wb bx cs w2 G' R' n' l:=by
 obtain⟨G',a1,a2,a3⟩:=ht;refine⟨G',a1,h.ref.mod a3 a2,h.box.mod a3 h.apart.1,⟨fun hq=> ?_,h.apart.2⟩,fun q hq=>(a2 q hq).elim (h.low q) (fun k=>Nat.le_trans h.below.size k),h.below.trans (a3.below h.low h.below.size)⟩;rcases a2 bx hq with k|k
 ·exact h.apart.1 k
 ·exact absurd h.box.lt (Nat.not_lt.2 k)
theorem lZ.put (h:lZ w E K M I fb b wb bx cs w1 G R n l)(hx:pY w2 w.heap.size wb M G l')(hm:Mod [wb] w1 w2):lZ w E K M I fb b wb bx cs w2 G R n l':=by
 have hwb:wb∉G∧w.heap.size≤wb:=hx.2;refine⟨h.fm.mod hm (fun q hq=> ?_),hx,h.box.mod hm (by simpa using h.apart.2.1),h.apart,h.low,h.below.trans (hm.below (fun k hk=>by rw[List.mem_singleton.1 hk];exact hwb.2) h.below.size)⟩;rw[List.mem_singleton.1 hq];exact hwb
theorem lZ.lens (h:lZ w E K M I fb b wb bx cs w1 G R n l):(∀q∈G,q<w1.heap.size)∧w.heap.size≤w1.heap.size:=⟨fun q hq=>(h.fm.gI q hq).1,h.below.size⟩
theorem EA (h:dS w E K M I fb b G w1 R n [] 0)(hr:jM R n l):l.length≤1000:=by
 have:=h.few;have:=hr.len;omega
theorem RO (hr:jM R n l)(k:Nat):(!kL l k && decide (M≤l.length))=noRoom M (R k) n:=by
 unfold noRoom;rw[zP hr.j5,pW hr,hr.len]
 cases R k<;>rfl
end
theorem aai {E:Nat→Addr}{w:World}{A:Option Addr}{c:Nat}(k m i:Int)(acts:List ow)(hE:Env w E w)(hEr:eY E w)(hA:Reads w w.heap.size 3 A acts.length (acts.flatMap ow.cells))(hb:∀a∈acts,a.f<18446744073709551616∧a.v<18446744073709551616):
  Calls Tryz.prog 3 #[gL k m i,.slice A acts.length c] w fun y w'=>y= .returned (.bool true)∧Below w.heap.size w w':=by
 have HE:=qd hE;have wN:=qd hEr;have HAc:=qd hA;have HAb:=qd hb;have hB0:=aj.new w 23 #[.int .i64 k,.int .i64 m,.int .i64 i];have hb0:=(Below.refl w.heap.size w).alloc (Nat.le_refl _) (.cells #[.int .i64 k,.int .i64 m,.int .i64 i] 23);unfold gL;clear hE hEr hA hb;go_in;go_upto_region 1 with fail;refine bV (F:=fun v=>aj v w.heap.size 23 #[.int .i64 k,.int .i64 m,.int .i64 i]∧Below w.heap.size w v) ⟨hB0,hb0⟩ ?_;clear hB0 hb0;rintro w1 ⟨hB1,hb1⟩;obtain⟨xb,hxb⟩:∃xb,xb=w.heap.size:=⟨_,rfl⟩;rw[←hxb]at hB1⊢;have HX:=qd hB1;have HB:=qd hb1;have HAl:=qd (Qs (W0:=w) (HE.out.next hb1));clear hB1 hb1 hxb;go_wp2_with fail;refine HAl.out.mono ?_;rintro y w2 ⟨rfl,hb2⟩;replace HX:=qB hb2 HX;replace HB:=qd (jq HB.out hb2);clear hb2 HAl;obtain⟨c0,c1,c2⟩:=HX.out.c3;by_cases hlen:120<acts.length
 ·have hlen':(120:Int)<(acts.length:Int):=by omega
  go_wp2;go_ret;exact⟨rfl,HB.out⟩
 have hlen':¬(120:Int)<(acts.length:Int):=by omega
 have HE2:=qd (HE.out.next HB.out)
 cases hcf:oD k m i with
 |false=>
  have jR:=qd (Uh HE2.out k m i hcf);unfold gL at jR;go_wp2_with fail;refine jR.out.mono ?_;rintro y w3 ⟨rfl,hb3⟩
  have XA:=qd (show Calls Tryz.prog 6 #[.agg #[.int .i64 k,.int .i64 m,.int .i64 i]] w3 (fun e w'=>e= .returned (.iface 351 (.pointer (some (E 1))))∧Below w3.heap.size w3 w')from by
   have h:=tu k m i w3 (HE2.out.next hb3).errs;rw[hcf]at h;rw[←iI E (by omega:1≤1)]
   exact h)
  have XB:=qd (HX.out.mod (Mod.of_below hb3 []) (by simp));have HB3:=qd (jq HB.out hb3);clear hb3 jR HX HB c0 c1 c2 hcf;obtain⟨c0,c1,c2⟩:=XB.out.c3;go_wp2_with fail;refine XA.out.mono ?_;rintro y w4 ⟨rfl,hb4⟩;have oP:=qd (jq HB3.out hb4);have HN:=qd (Ez (wN.out.below oP.out (Nat.le_refl _)) 1 (by omega) (by omega));clear hb4 XA HB3;go_wp2_with fail;refine HN.out.mono ?_;rintro y w5 ⟨rfl,hb5⟩;have p8:=qd (jq oP.out hb5);clear hb5 HN oP;go_wp2;go_ret;exact⟨rfl,p8.out⟩
 |true=>
  obtain⟨K,M,I,hK,hM,hk1,hm1,hi1⟩:=aah hcf
  have hI8:1≤I∧I≤8:=by
   unfold oD Av at hcf;simp at hcf;omega
  have jR:=qd (Xd HE2.out k m i hcf K M I ⟨hK,hM,hk1,hm1,hi1⟩ hI8);unfold gL at jR;have HKm:=qd (And.intro hK (And.intro hM (And.intro hI8 hm1)))
  have XA:=qd (fun(W:World) (hb:Below w2.heap.size w2 W)=>show Calls Tryz.prog 6 #[.agg #[.int .i64 k,.int .i64 m,.int .i64 i]] W (fun e w'=>e= .returned .nilIface∧Below W.heap.size W w')from by
   have h:=tu k m i W (HE2.out.next hb).errs;rw[hcf]at h
   exact h)
  clear hcf hK hM hk1 hm1 hi1 hI8;go_wp2_with fail;refine jR.out.mono ?_;rintro y w3 ⟨fb,b,G0,rfl,hA3,hq3,hb3⟩;have XB:=qd (HX.out.mod (Mod.of_below hb3 []) (by simp));have HB3:=qd (jq HB.out hb3);have mU:=qd (XA.out w3 hb3);have HA3:=qd hA3;have HQ3:=qd (show∀q∈G0,w.heap.size≤q from fun q hq=>Nat.le_trans HB.out.size (hq3 q hq));clear hb3 hA3 hq3 jR HX HB c0 c1 c2 XA;obtain⟨c0,c1,c2⟩:=XB.out.c3;go_wp2_with fail;refine mU.out.mono ?_;rintro y w4 ⟨rfl,hb4⟩;have HX4:=qd (XB.out.mod (Mod.of_below hb4 []) (by simp));have oP:=qd (jq HB3.out hb4);have HA4:=qd (HA3.out.below hb4);clear hb4 mU XB HB3 HA3 c0 c1 c2;have c1:=HX4.out.cell 1;simp only[gl]at c1;obtain rfl:m=(M:Int):=HKm.out.2.2.2;go_upto_region 11 with fail;refine bV (F:=fun v=>aj v w4.heap.size 37 #[.slice none 0 0,.slice none 0 0,nI M]∧Below w4.heap.size w4 v) ⟨aj.new w4 37 #[.slice none 0 0,.slice none 0 0,nI M],(Below.refl w4.heap.size w4).alloc (Nat.le_refl _) _⟩ ?_;rintro w5 ⟨sP,hb5⟩;have hwG:w4.heap.size∉G0:=fun hq=>absurd (HA4.out.gI _ hq).1 (Nat.lt_irrefl _);have hwl:=oP.out.size;obtain⟨wb,hwb⟩:∃wb,wb=w4.heap.size:=⟨_,rfl⟩;rw[←hwb]at sP hwG hwl⊢;have HX5:=qd (show pY w5 w.heap.size wb M G0 []from⟨⟨none,0,none,0,sP,World.ownsRow_nil _ _ _ _,World.ownsRow_nil _ _ _ _,fun g hg=>by simp[Value.ownBlock]at hg,fun g hg=>by simp[Value.ownBlock]at hg⟩,hwG,hwl⟩);have Xp:=qd (HA4.out.below hb5);have p8:=qd (oP.out.trans (hb5.mono oP.out.size));clear sP hb5 hwG hwl hwb HA4 oP HX4 c1
  have HR5:=qd (And.intro abO keys_nil);go_wp2;go_loopw [62] (fun v62 wr=>∃(j n:Nat) (R:Nat→Option Nat) (G:List Nat) (l:PL),j≤acts.length∧v62=nI j∧Hid (jM R n l∧oh R)∧Hid (dS w E K M I fb b G wr R n [] 0)∧Hid (pY wr w.heap.size wb M G l)∧Hid (∀q∈G,w.heap.size≤q)∧Hid (Below w.heap.size w wr)) (fun v62 _=>acts.length-(intOf v62).toNat)
  case atStart=>exact⟨0,0,_,G0,[],by omega,rfl,HR5,Xp,HX5,HQ3,p8⟩
  case round=>
   clear HR5 Xp HX5 HQ3 p8;obtain⟨j,n,R,G,l,hj,rfl,HR,HA,HX,HQ,HB⟩:=hrel;by_cases hlt:j<acts.length
   ·have hlt':(j:Int)<(acts.length:Int):=by omega
    have hj0:(0:Int)≤(j:Int):=by omega
    have hwj:IntKind.i64.wrap ((j:Int)+1)=((j+1:Nat):Int):=by rw[IntKind.wrap_i64];omega
    obtain⟨a,ha⟩:∃a,acts[j]?=some a:=⟨_,List.getElem?_eq_getElem hlt⟩;obtain⟨g,off,hAg,hgl,hc⟩:=HAc.out.2 (by omega);have r0:wr.cell? ⟨g,off+j*3,none⟩=some (.int .i64 a.kind):=aI HB.out (hc (j*3+0) _ (BX acts j a ha 0 (by omega)));have r1:wr.cell? ⟨g,off+j*3+1,none⟩=some (.float .f64 a.f):=aI HB.out (hc (j*3+1) _ (BX acts j a ha 1 (by omega)));have r2:wr.cell? ⟨g,off+j*3+2,none⟩=some (.float .f64 a.v):=aI HB.out (hc (j*3+2) _ (BX acts j a ha 2 (by omega)));have wh:=qd (HAb.out a (List.mem_of_getElem? ha));have HM:=qd (show acts.length-(j+1)<acts.length-j by omega);have HJ:=qd (Nat.succ_le_of_lt hlt);subst hAg;clear hc ha hgl;have Jp:=fun(q:Addr) (z:Nat) m (V:World)=>run_store Tryz.prog V q (.float .f64 z) m rfl;go_upto_region 14 with fail;clear Jp;refine bV (F:=fun v=>aj v wr.heap.size 40 #[.int .i64 a.kind,.float .f64 a.f,.float .f64 a.v]∧Below wr.heap.size wr v) ⟨aj.new wr 40 #[.int .i64 a.kind,.float .f64 a.f,.float .f64 a.v],(Below.refl wr.heap.size wr).alloc (Nat.le_refl _) _⟩ ?_;rintro w6 ⟨mV,hb6⟩;have hS:lZ w E K M I fb b wb wr.heap.size #[.int .i64 a.kind,.float .f64 a.f,.float .f64 a.v] w6 G R n l:=⟨HA.out.below hb6,HX.out.below hb6,mV,⟨fun hq=>absurd (HA.out.gI _ hq).1 (Nat.lt_irrefl _),fun h=>absurd HX.out.lt (by rw[←h];exact Nat.lt_irrefl _),HB.out.size⟩,HQ.out,HB.out.trans (hb6.mono HB.out.size)⟩;obtain⟨bx,hbx⟩:∃bx,bx=wr.heap.size:=⟨_,rfl⟩;rw[←hbx]at hS⊢;have HS:=qd hS;obtain⟨x0,x1,x2⟩:=hS.box.c3
    have HG:=qd (Vj hS.ref (EA hS.fm HR.out.1) HR.out.1.j5 a.f wh.out.1);rw[pW HR.out.1]at HG;obtain⟨old,hold⟩:∃o,o=(R (aA a.f)).getD 0:=⟨_,rfl⟩;obtain⟨wi,hwi⟩:∃o,o=(R (aA a.f)).isSome:=⟨_,rfl⟩;rw[←hold,←hwi]at HG;have adp:=qd hold;clear hwi hold;have he:=@run_callFunc_extern Tryz.prog 8 _ Extern.MathFloatBits.float64bits Tryz.func8 (by kernel_rfl) (by kernel_rfl) (by kernel_rfl) (by kernel_rfl);have Fh:=fun(b:Nat) (W:World)=>show(Extern.MathFloatBits.float64bits #[.float .f64 b]).run Tryz.prog W= .ok (nU b) W from rfl;clear mV hb6 hS hbx HA HX HQ HB r0 r1 r2;go_wp2_with fail;refine HG.out.mono ?_;rintro y w7 ⟨rfl,Du⟩;replace HS:=qd (HS.out.at_ Du);clear Du HG x0 x1 x2;obtain⟨x0,x1,x2⟩:=HS.out.box.c3;go_upto_block 2 with fail
    go_cut []from 63 to 176 (fun wx=>∃(G:List Nat) (R:Nat→Option Nat) (n:Nat) (l:PL),Hid (lZ w E K M I fb b wb bx #[.int .i64 a.kind,.float .f64 a.f,.float .f64 a.v] wx G R n l)∧Hid (jM R n l∧oh R))
    case first=>
     have RP:=qd (EA HS.out.fm HR.out.1);by_cases hk0:a.kind=0
     ·rw[hk0]at x0;have hp:=JW (HS.out.at_ (Below.refl w7.heap.size w7).drew).fm a.f a.v wh.out.1 wh.out.2;obtain⟨j2,hj2⟩:∃j2,j2=(if noRoom M (R (aA a.f)) n then 2 else 0):=⟨_,rfl⟩
      have hj9:j2≤2:=by rw[hj2];split<;>omega
      have hrw:=Py (M:=M) HR.out.1 (aA a.f) (aQ a.v);have HKy:=qd (GR HR.out.2 wh.out.1 (some (aQ a.v)));rw[←hj2]at hp;obtain⟨R',hR'⟩:∃R',R'=qC M R n (aA a.f) (aQ a.v):=⟨_,rfl⟩;obtain⟨n',hn'⟩:∃n',n'=qZ M (R (aA a.f)) n:=⟨_,rfl⟩;rw[←hR',←hn']at hp hrw
      have HR':=qd (And.intro hrw (show oh R' from by
       rw[hR']
       exact LA HR.out.2 wh.out.1))
      have HP:=qd hp;have XC:=qd (fun(W:World)=>AV a.v wh.out.2 W)
      have HW:=qd (fun(G1:List Nat) (W:World) (hS:lZ w E K M I fb b wb bx #[.int .i64 a.kind,.float .f64 a.f,.float .f64 a.v] W G1 R' n' l)=>show Calls Tryz.prog 11 #[pQ wb,nU a.f,.float .f64 (aQ a.v)] W (fun e w'=>e= .returned (nI j2)∧pY w' w.heap.size wb M G1 (if noRoom M (R (aA a.f)) n then l else mH l (aA a.f) (aQ a.v))∧Mod [wb] W w')from by
       have h:=Vp hS.ref hS.lens.2 hS.lens.1 RP.out HR.out.1.j5 a.f (aQ a.v) wh.out.1;rw[RO HR.out.1]at h;rw[hj2];refine h.mono ?_;rintro y w' ⟨rfl,h2⟩
       exact⟨by split<;>rfl,h2⟩)
      clear hp hj2 hrw hR' hn' HKy;go_upto_region 18 with fail;refine rT (fun(w':World)=>w'.cell? ⟨bx,1,none⟩=some (.float .f64 a.f)∧w'.cell? ⟨bx,2,none⟩=some (.float .f64 a.v)) [] ?_;have hHeld:=(⟨x1,x2⟩:_∧_);refine vW 0 rfl ?_;refine vW 1 rfl ?_;refine vT 2 rfl ?_;refine vW 3 rfl ?_;refine vT 4 rfl ?_;refine vW 7 rfl ?_;refine vW 8 rfl ?_;refine vW 9 rfl ?_;refine vT 10 rfl ?_;refine nT 5 rfl fun K hK=> ?_;go_simp
      try rw[if_pos (by kernel_rfl)]
      go_wp2_with fail;refine HP.out.mono ?_;rintro y wp ⟨rfl,hto⟩;obtain⟨G1,hS1⟩:=lZ.to (HS.out.at_ (Below.refl w7.heap.size w7).drew) hto;have dP:=qd hS1;have HN:=qd (fun(W:World) (hW:Below wp.heap.size wp W)=>RN (wN.out.below (dP.out.below.trans (hW.mono dP.out.below.size)) (Nat.le_refl _)) j2 (by omega));clear hto hS1 HP HS x0 x1 x2;have y1:=dP.out.box.cell 1;have y2:=dP.out.box.cell 2;simp only[gl]at y1 y2;go_wp2_with fail;have hHeld:=(⟨y1,y2⟩:_∧_);refine kO hK ?_;clear hK K;refine nT 6 rfl fun K hK=> ?_;go_simp
      try rw[if_pos (by kernel_rfl)]
      go_wp2_with fail;refine(HN.out wp (Below.refl _ _)).mono ?_;rintro y wq ⟨rfl,hbq⟩;replace dP:=qd (dP.out.at_ hbq);clear hbq HN y1 y2;have y1:=dP.out.box.cell 1;have y2:=dP.out.box.cell 2;simp only[gl]at y1 y2;go_wp2_with fail;have hHeld:=(⟨y1,y2⟩:_∧_);refine kO hK ?_;clear hK K;refine nT 11 rfl fun K hK=> ?_;go_simp
      try rw[if_pos (by kernel_rfl)]
      go_wp2_with fail;refine(XC.out _).mono ?_;rintro y wz ⟨rfl,rfl⟩;go_wp2_with fail;have hHeld:=(⟨y1,y2⟩:_∧_);refine kO hK ?_;clear hK K;refine nT 12 rfl fun K hK=> ?_;go_simp
      try rw[if_pos (by kernel_rfl)]
      go_wp2_with fail;refine(HW.out G1 wq dP.out).mono ?_;rintro y wz ⟨rfl,hx,hm⟩;replace dP:=qd (dP.out.put hx hm);clear hx hm HW y1 y2 XC;have y1:=dP.out.box.cell 1;have y2:=dP.out.box.cell 2;simp only[gl]at y1 y2;go_wp2_with fail;have hHeld:=(⟨y1,y2⟩:_∧_);refine kO hK ?_;clear hK K;refine tW 13 (some 92) (.bool false) rfl hHeld ?_
      try simp only[pt]
      refine aR (by kernel_rfl) ?_ _;go_wp2;go_meet
      case rel=>exact⟨_,R',n',_,qd (dP.out),HR'⟩
     by_cases hk1:a.kind=1
     ·rw[hk1]at x0;have uw:=qd (adn HS.out.fm a.f a.v wh.out.1);rw[←adp.out]at uw;obtain⟨q,hq⟩:∃q,q=Ieee.double.add old a.v:=⟨_,rfl⟩;have Fu:jT q<18446744073709551616:=Pz (fun z e=>Jf (hq.symm.trans e));obtain⟨s,hs⟩:∃s,s=jT q:=⟨_,rfl⟩;have HAB:=qd (fun(W:World)=>AR old a.v 38 W);rw[←hq]at uw HAB;rw[←hs]at uw Fu;have hrw:=Py (M:=M) HR.out.1 (aA a.f) s;obtain⟨R',hR'⟩:∃R',R'=qC M R n (aA a.f) s:=⟨_,rfl⟩;obtain⟨n',hn'⟩:∃n',n'=qZ M (R (aA a.f)) n:=⟨_,rfl⟩;rw[←hR',←hn']at uw hrw
      have HR':=qd (And.intro hrw (show oh R' from by
       rw[hR']
       exact LA HR.out.2 wh.out.1))
      have XC:=qd (fun(r:Nat) (W:World) (hr:mD q r∧r<18446744073709551616)=>show Calls Tryz.prog 12 #[.float .f64 r] W (fun e w'=>e= .returned (.float .f64 s)∧W=w')from by
       have h:=AV r hr.2 W;rw[AQ hr.1,←hs]at h
       exact h)
      have HW:=qd (fun(G1:List Nat) (W:World) (hS:lZ w E K M I fb b wb bx #[.int .i64 a.kind,.float .f64 a.f,.float .f64 a.v] W G1 R' n' l)=>show Calls Tryz.prog 11 #[pQ wb,nU a.f,.float .f64 s] W (fun e w'=>e= .returned (.int .i64 (if noRoom M (R (aA a.f)) n then 2 else 0))∧pY w' w.heap.size wb M G1 (if noRoom M (R (aA a.f)) n then l else mH l (aA a.f) s)∧Mod [wb] W w')from by
       have h:=Vp hS.ref hS.lens.2 hS.lens.1 RP.out HR.out.1.j5 a.f s wh.out.1;rw[RO HR.out.1]at h
       exact h)
      clear hq hrw hR' hn' hs Fu;go_wp2_with fail;refine uw.out.mono ?_;rintro y wp ⟨rfl,hto⟩;obtain⟨G1,hS1⟩:=lZ.to HS.out hto;have dP:=qd hS1;clear hto hS1 uw HS x0 x1 x2;obtain⟨r,wq,hadd,Di,hbq⟩:=HAB.out wp;have HS2:=qd (dP.out.at_ hbq);have wK:=qd (fun(W:World)=>XC.out r W Di);have LB:=qd (HW.out G1 wq HS2.out);have y2:=dP.out.box.cell 2;simp only[gl]at y2;clear Di hbq XC HW HAB dP;cases hfull:noRoom M (R (aA a.f)) n
      case' true=>
       rw[hfull]at LB HR';rw[show aad E true s= .tuple #[.float .f64 0,.iface 351 (.pointer (some (E 2)))]from rfl];go_wp2_with fail;refine(wK.out _).mono ?_;rintro y wz ⟨rfl,rfl⟩;go_wp2_with fail;refine LB.out.mono ?_;rintro y wz ⟨rfl,hx,hm⟩;have gU:=qd (HS2.out.put hx hm);have Ea:=qd (fun(W:World)=>om 0 W);have HN:=qd (Ez (wN.out.below gU.out.below (Nat.le_refl _)) 2 (by omega) (by omega))
      case' false=>
       rw[hfull]at LB HR';rw[show aad E false s= .tuple #[.float .f64 s,.nilIface]from rfl];go_wp2_with fail;refine(wK.out _).mono ?_;rintro y wz ⟨rfl,rfl⟩;go_wp2_with fail;refine LB.out.mono ?_;rintro y wz ⟨rfl,hx,hm⟩;have gU:=qd (HS2.out.put hx hm);have Ea:=qd (fun(W:World)=>om s W);have HN:=qd (show Calls Tryz.prog 7 #[.nilIface] wz (fun e w'=>e= .returned (.int .i64 0)∧Below wz.heap.size wz w')from RN (wN.out.below gU.out.below (Nat.le_refl _)) 0 (by omega))
      all_goals
       clear hx hm LB HS2 y2 wK;go_wp2_with fail;refine(Ea.out _).mono ?_;rintro y wv ⟨rfl,rfl⟩;go_wp2_with fail;refine HN.out.mono ?_;rintro y wv ⟨rfl,hbv⟩;replace gU:=qd (gU.out.at_ hbv);clear hbv HN Ea;go_wp2;go_meet
       case rel=>exact⟨_,R',n',_,gU,HR'⟩
     by_cases hk2:a.kind=2
     ·rw[hk2]at x0;have HDl:=qd (Xg HS.out.fm a.f wh.out.1);have hrw:=abN HR.out.1 (aA a.f);have hkd:=GR HR.out.2 wh.out.1 none
      have HW:=qd (fun(G1:List Nat) (W:World) (R':Nat→Option Nat) (n':Nat) (hS:lZ w E K M I fb b wb bx #[.int .i64 a.kind,.float .f64 a.f,.float .f64 a.v] W G1 R' n' l)=>show Calls Tryz.prog 16 #[pQ wb,nU a.f] W (fun e w'=>e= .returned (.bool (R (aA a.f)).isSome)∧pY w' w.heap.size wb M G1 (lN l (aA a.f))∧Mod [wb] W w')from by
       have h:=Vq hS.ref hS.lens.2 hS.lens.1 RP.out HR.out.1.j5 a.f wh.out.1;rw[zP HR.out.1.j5,pW HR.out.1]at h
       exact h)
      have HR':=qd (And.intro hrw hkd);obtain⟨bb,hbb⟩:∃bb,bb=(R (aA a.f)).isSome:=⟨_,rfl⟩;rw[←hbb]at HDl HW;clear hrw hkd hbb;go_wp2_with fail;refine HDl.out.mono ?_;rintro y wp ⟨rfl,hto⟩;obtain⟨G1,hS1⟩:=lZ.to HS.out hto;have dP:=qd hS1;have LB:=qd (HW.out G1 wp _ _ hS1);clear hto hS1 HDl HS x0 x1 x2 HW;go_wp2_with fail;refine LB.out.mono ?_;rintro y wz ⟨rfl,hx,hm⟩;have gU:=qd (dP.out.put hx hm);clear hx hm LB dP;go_wp2;go_meet
      case rel=>exact⟨_,_,_,_,gU,HR'⟩
     go_wp2;go_meet
     case rel=>exact⟨G,R,n,l,HS,HR⟩
    case rest=>
     clear HS HR x0 x1 x2 adp;obtain⟨G,R,n,l,HS,HR⟩:=hcut;have HG:=qd (Pn HS.out.fm a.f wh.out.1);obtain⟨vv,hvv⟩:∃v,v=(R (aA a.f)).getD 0:=⟨_,rfl⟩;obtain⟨ii,hii⟩:∃v,v=(R (aA a.f)).isSome:=⟨_,rfl⟩
     have HG2:=qd (fun(G1:List Nat) (W:World) (hS:lZ w E K M I fb b wb bx #[.int .i64 a.kind,.float .f64 a.f,.float .f64 a.v] W G1 R n l)=>show Calls Tryz.prog 9 #[pQ wb,nU a.f] W (fun e w'=>e= .returned (.tuple #[.float .f64 vv,.bool ii])∧Below W.heap.size W w')from by
      have h:=Vj hS.ref (EA hS.fm HR.out.1) HR.out.1.j5 a.f wh.out.1;rw[pW HR.out.1,←hvv,←hii]at h
      exact h)
     rw[←hvv,←hii]at HG;have x1:=HS.out.box.cell 1;simp only[gl]at x1;clear hvv hii;go_wp2_with fail;refine HG.out.mono ?_;rintro y w8 ⟨rfl,hto⟩;obtain⟨G1,hS1⟩:=lZ.to HS.out hto;have dP:=qd hS1;have HGx:=qd (HG2.out G1 w8 hS1);clear hto hS1 HG HS x1 HG2;go_wp2_with fail;refine HGx.out.mono ?_;rintro y w9 ⟨rfl,jE⟩;have HS2:=qd (dP.out.at_ jE);have I8:=dP.out.at_ (jE.trans ((Below.refl w9.heap.size w9).drew.mono jE.size));have gU:=qd I8;have y1:=HS2.out.box.cell 1;obtain⟨⟨A2,c2,B2,d2,hBw,_⟩,_⟩:=HS2.out.ref;have y0:=hBw.cell 0;simp only[gl]at y0 y1;obtain⟨z,hz⟩:∃z,z=l.length:=⟨_,rfl⟩
     have uq:=qd (show Calls Tryz.prog 18 #[pQ fb] w9.drew (fun e w'=>e= .returned (nI z)∧w9.drew=w')from by
      have h:=Xe I8.fm;rw[←HR.out.1.len,←hz]at h
      exact h)
     have Ea:=qd (fun(W:World)=>om vv W);have Ov:=qd (fun(W:World)=>yM a.f wh.out.1 W);have HKy:=qd (fun(W:World)=>mX a.f wh.out.1 W)
     have hmul:IntKind.u64.wrap ((aA a.f:Int)*11400714819323198485)=(iP (aA a.f):Int):=by unfold iP;rw[IntKind.wrap_u64];omega
     rw[←hz]at y0;clear jE HGx dP hBw hz I8;go_upto_region 33 with fail;refine rT (fun(w':World)=>w'.cell? ⟨bx,1,none⟩=some (.float .f64 a.f)∧w'.cell? ⟨wb,0,none⟩=some (.slice A2 z c2)) [] ?_;have hHeld:=(⟨y1,y0⟩:_∧_);refine vW 0 rfl ?_;refine vW 1 rfl ?_;refine nT 2 rfl fun K hK=> ?_;go_simp
     try rw[if_pos (by kernel_rfl)]
     go_wp2_with fail;refine(Ea.out _).mono ?_;rintro y wy ⟨rfl,rfl⟩;go_wp2_with fail;have hHeld:=(⟨y1,y0⟩:_∧_);refine kO hK ?_;clear hK K;refine tW 3 (some 151) (.bool false) rfl hHeld ?_
     try simp only[pt]
     refine tW 4 (some 152) (.bool false) rfl hHeld ?_
     try simp only[pt]
     refine vW 5 rfl ?_;refine vW 6 rfl ?_;refine tW 7 (some 155) (.bool false) rfl hHeld ?_
     try simp only[pt]
     refine tW 8 (some 156) (.bool false) rfl hHeld ?_
     try simp only[pt]
     refine tW 9 (some 157) (.bool false) rfl hHeld ?_
     try simp only[pt]
     refine vW 10 rfl ?_;refine vW 12 rfl ?_;refine vW 13 rfl ?_;refine vW 14 rfl ?_;refine vT 15 rfl ?_;refine vW 16 rfl ?_;refine nT 11 rfl fun K hK=> ?_;go_simp
     try rw[if_pos (by kernel_rfl)]
     go_wp2_with fail;refine(uq.out).mono ?_;rintro y wy ⟨rfl,rfl⟩;go_wp2_with fail;have hHeld:=(⟨y1,y0⟩:_∧_);refine kO hK ?_;clear hK K;refine tW 17 (some 165) (.bool false) rfl hHeld ?_
     try simp only[pt]
     refine tW 18 (some 166) (.bool false) rfl hHeld ?_
     try simp only[pt]
     refine tW 19 (some 167) (.bool false) rfl hHeld ?_
     try simp only[pt]
     refine vW 20 rfl ?_;refine vT 21 rfl ?_;refine vW 23 rfl ?_;refine nT 22 rfl fun K hK=> ?_;go_simp
     try rw[if_pos (by kernel_rfl)]
     go_wp2_with fail;refine(Ov.out _).mono ?_;rintro y wy ⟨rfl,rfl⟩;go_wp2_with fail;have hHeld:=(⟨y1,y0⟩:_∧_);refine kO hK ?_;clear hK K;refine nT 24 rfl fun K hK=> ?_;go_simp
     try rw[if_pos (by kernel_rfl)]
     go_wp2_with fail;refine(HKy.out _).mono ?_;rintro y wy ⟨rfl,rfl⟩;go_wp2_with fail;have hHeld:=(⟨y1,y0⟩:_∧_);refine kO hK ?_;clear hK K;refine vW 25 rfl ?_;refine tW 26 (some 174) (.bool false) rfl hHeld ?_
     try simp only[pt]
     refine tW 27 (some 175) (.bool false) rfl hHeld ?_
     try simp only[pt]
     refine aR (by kernel_rfl) ?_ _;go_wp2;go_roundw
     case measure=>simp[intOf];exact HM.out
     exact⟨j+1,n,R,_,l,HJ.out,rfl,HR,qd gU.out.fm,qd gU.out.ref,qd gU.out.low,qd gU.out.below⟩
   ·obtain rfl:j=acts.length:=by omega
    have hlt':¬(acts.length:Int)<(acts.length:Int):=by omega
    have hI1:1≤I:=HKm.out.2.2.1.1
    have Ik:n≤192:=by have:=HA.out.few;omega
    have h6:=wN.out.at_ 6 (by omega) (by omega);have h12:=wN.out.at_ 12 (by omega) (by omega);have wQ:=qd (GN HA.out hI1 (by omega) h6 HR.out.2 Ik);have VI:=qd (fun(G1:List Nat) (W:World) (hA:dS w E K M I fb b G1 W R n [] 1)=>ado hA hI1 (by omega) h6 HR.out.2 Ik);have qh:=qd (fun(G1:List Nat) (W:World) (hA:dS w E K M I fb b G1 W R n [] 2)=>Z9 hA hI1 (by omega) h6 h12 HR.out.2 Ik);have RP:=qd (EA HA.out HR.out.1);clear hI1 Ik h6 h12;go_wp2_with fail;refine wQ.out.mono ?_;rintro y w8 ⟨v,l1,G1,rfl,hrw,ho,hA1,hs1,hm1⟩;obtain rfl:=GQ HR.out.1 hrw;obtain⟨A5,c5,hv5⟩:=bA ho.row;subst hv5;obtain⟨bs,hbs⟩:∃bs,bs=wr.heap.size:=⟨_,rfl⟩;rw[←hbs]at ho;have HN1:=qd (show zy w E K M I fb b wb bs c5 A5 G1 R n l 1 w8 from⟨hA1,HX.out.mod hm1 hs1,ho,fun q hq=>(hs1 q hq).elim (HQ.out q) (fun k=>Nat.le_trans HB.out.size k),HB.out.trans (hm1.below HQ.out HB.out.size)⟩);have adq:=qd (VI.out G1 w8 hA1);clear hrw ho hA1 hs1 hm1 wQ HA HX HQ HB VI hbs;go_wp2_with fail;refine adq.out.mono ?_;rintro y w9 ⟨l2,G2,rfl,hrw,hA2,hs2,hm2⟩;obtain rfl:=GQ HR.out.1 hrw;have VK:=qd (HN1.out.to hA2 hs2 hm2);have adr:=qd (qh.out G2 w9 hA2);clear hrw hA2 hs2 hm2 HN1 adq qh;go_wp2_with fail;refine adr.out.mono ?_;rintro y w10 ⟨l3,G3,rfl,hrw,hA3,hs3,gZ⟩;obtain rfl:=GQ HR.out.1 hrw;have HN3:=qd (VK.out.to hA3 hs3 gZ);clear hrw hA3 hs3 gZ VK adr;obtain⟨f0,e0,hle,hcs⟩:=Ul E l;rw[hle];have Cv:=qd hcs;clear hle hcs;obtain⟨⟨A2,c2,B2,d2,hBw,_⟩,_⟩:=HN3.out.2.1;have y0:=hBw.cell 0;simp only[gl]at y0
    have HSq:=qd (ab8 HN3.out.2.1 RP.out);obtain⟨s,hs⟩:∃s,s=jT (ql l):=⟨_,rfl⟩
    have HF:=qd (fun(r:Nat) (W:World) (h:mD (ql l) r∧r<18446744073709551616)=>show Calls Tryz.prog 12 #[.float .f64 r] W (fun e w'=>e= .returned (.float .f64 s)∧W=w')from by
     have h9:=AV r h.2 W;rw[AQ h.1,←hs]at h9
     exact h9)
    have Ea:=qd (fun(W:World)=>om s W);rw[←hs];obtain⟨z,hz⟩:∃z,z=l.length:=⟨_,rfl⟩;have HZ:=qd hz
    have hz9:z≤1000:=by rw[hz];exact RP.out
    rw[←hz]at y0⊢;clear hBw hs hz;go_wp2_with fail;refine HSq.out.mono ?_;rintro y w11 ⟨r,rfl,hr1,hr2,Dv⟩;have XD:=qd (HN3.out.at_ Dv);have wK:=qd (fun(W:World)=>HF.out r W ⟨hr1,hr2⟩);clear hr1 hr2 Dv HN3 HSq HF y0;go_wp2_with fail;refine(wK.out _).mono ?_;rintro y wy ⟨rfl,rfl⟩;go_wp2_with fail;refine(Ea.out _).mono ?_;rintro y wy ⟨rfl,rfl⟩;clear wK Ea;by_cases hz0:z=0
    ·obtain⟨hl0,hf0,he0⟩:l=[]∧f0=0∧e0= .iface 351 (.pointer (some (E 12))):=by
      rcases Cv.out with h|⟨p,l',h,_⟩
      ·exact h
      ·have:=HZ.out;rw[h,List.length_cons]at this;omega
     subst hf0;subst he0
     have hz0':(z:Int)=0:=by omega
     have hq0:(FloatKind.f64.format.order 0 0==some .eq)=true:=by decide
     have HN:=qd (Ez (wN.out.below XD.out.2.2.2.2 (Nat.le_refl _)) 12 (by omega) (by omega));have p9:=qd XD.out.2.2.2.2;clear hl0 XD Cv;go_wp2_with fail;refine HN.out.mono ?_;rintro y w12 ⟨rfl,PG⟩;have RH:=qd (jq p9.out PG);clear PG HN p9;go_wp2;go_ret;exact⟨rfl,RH.out⟩
    obtain⟨p0,l0,hl0,hf0,he0⟩:∃p l',l=p::l'∧f0=pV p.1∧e0= .nilIface:=by
     rcases Cv.out with⟨h,_⟩|h
     ·exact absurd (by rw[HZ.out,h];rfl) hz0
     ·exact h
    have hz0':¬(z:Int)=0:=by omega
    subst he0;have Ed:=qd (And.intro (show l[0]?=some p0 from by rw[hl0];rfl) hf0);clear hl0 hf0 Cv;go_wp2
    try rw[show((z:Int)==0)=false from by simp;omega]
    have HZ0:=qd hz0;clear hz0 hz0';go_loopw [228] (fun v228 W=>∃t:Nat,t≤z∧v228=nI t∧Hid (zy w E K M I fb b wb bs c5 A5 G3 R n l 3 W)) (fun v228 _=>z-(intOf v228).toNat)
    case atStart=>exact⟨0,by omega,rfl,XD⟩
    case round=>
     clear XD;obtain⟨t,ht,rfl,HN⟩:=hrel;by_cases hlt:t<z
     ·have hlt':(t:Int)<(z:Int):=by omega
      have ht0:(0:Int)≤(t:Int):=by omega
      have hwt:IntKind.i64.wrap ((t:Int)+1)=((t+1:Nat):Int):=by rw[IntKind.wrap_i64];omega
      obtain⟨p,hp⟩:∃p,l[t]?=some p:=⟨_,List.getElem?_eq_getElem (by have:=HZ.out;omega)⟩;obtain⟨zk,Px,hpk⟩:=HR.out.2 p.1 p.2 ((HR.out.1.mem _ _).1 (List.mem_of_getElem? hp));obtain⟨fz,hfz⟩:∃f,f=aQ zk:=⟨_,rfl⟩
      have hkb:pV p.1=fz:=by rw[hpk,hfz];exact BU Px
      have Lm:=qd (fun(W:World)=>show Calls Tryz.prog 25 #[nU p.1] W (fun e w'=>e= .returned (.tuple #[nU fz,.bool true])∧Below W.heap.size W w')from by
       rw[hpk,hfz]
       exact Ug zk Px W)
      obtain⟨g5,o5,Ct,hg5,CW⟩:=(Reads.fD HN.out.2.2.1.row).2 (by have:=HZ.out;omega);have r0:=CW (t*2+0) _ (xJ hp (by omega));have r1:=CW (t*2+1) _ (xJ hp (by omega));rw[show((fC p)[0]!)= .float .f64 fz from by rw[←hkb];rfl]at r0;rw[show((fC p)[1]!)= .float .f64 p.2 from rfl]at r1;rw[Nat.add_zero]at r0;rw[←Nat.add_assoc]at r1;have HE2:=qd (fun(W:World)=>om p.2 W);have VP:=qd (show z-(t+1)<z-t by omega);have HJ2:=qd (Nat.succ_le_of_lt hlt);have Ww:=qd hp;subst Ct;clear hp Px hpk hfz hkb CW hg5;have Jp:=fun(q:Addr) (z:Nat) m (V:World)=>run_store Tryz.prog V q (.float .f64 z) m rfl;go_upto_region 46 with fail;clear Jp r0 r1;refine bV (F:=fun v=>aj v wr.heap.size 62 #[.float .f64 fz,.float .f64 p.2]∧Below wr.heap.size wr v) ⟨aj.new wr 62 #[.float .f64 fz,.float .f64 p.2],(Below.refl wr.heap.size wr).alloc (Nat.le_refl _) _⟩ ?_;rintro w12 ⟨aaj,PG⟩;have HN5:=qd (HN.out.at_ PG);obtain⟨bx,hbx⟩:∃bx,bx=wr.heap.size:=⟨_,rfl⟩;rw[←hbx]at aaj⊢;have kI:=qd aaj;obtain⟨⟨A6,c6,B6,d6,hBw,hK6,_⟩,_⟩:=HN5.out.2.1;obtain⟨g6,o6,hA6,hg6,k0⟩:=Ii (Reads.fD hK6) Ww.out;unfold kC at k0;subst hA6;have b0:=hBw.cell 0;simp only[gl]at b0;rw[←HZ.out]at b0;clear aaj PG hbx hBw hK6 hg6 HN;go_wp2_with fail;refine(Lm.out _).mono ?_;rintro y w13 ⟨rfl,aak⟩;have HN6:=qd (HN5.out.at_ aak);have hBx:=kI.out.below aak kI.out.lt;have q0:=hBx.cell 0;have q1:=hBx.cell 1;obtain⟨⟨A7,c7,B7,d2,hBw,_,hV7,_⟩,_⟩:=HN6.out.2.1;obtain⟨g7,o7,O5,FJ,v0⟩:=Ii (Reads.fD hV7) Ww.out;unfold fF at v0;subst O5
      have b1:=hBw.cell 1;simp only[gl]at q0 q1 b1;rw[←HZ.out]at b1;have HN7:=qd (HN6.out.at_ (Below.refl w13.heap.size w13).drew);have he:=@run_callFunc_extern Tryz.prog 8 _ Extern.MathFloatBits.float64bits Tryz.func8 (by kernel_rfl) (by kernel_rfl) (by kernel_rfl) (by kernel_rfl);have Fh:=fun(b:Nat) (W:World)=>show(Extern.MathFloatBits.float64bits #[.float .f64 b]).run Tryz.prog W= .ok (nU b) W from rfl;clear aak hBx hBw hV7 FJ HN5 HN6 kI Lm b0 k0;go_upto_region 47 with fail;refine rT (fun(w':World)=>w'.cell? ⟨bx,0,none⟩=some (.float .f64 fz)∧w'.cell? ⟨bx,1,none⟩=some (.float .f64 p.2)∧w'.cell? ⟨wb,1,none⟩=some (.slice (some ⟨g7,o7,none⟩) z d2)∧w'.cell? ⟨g7,o7+t,none⟩=some (.float .f64 p.2)) [] ?_;have hHeld:=(⟨q0,q1,b1,v0⟩:_∧_∧_∧_);refine vW 0 rfl ?_;refine vT 1 rfl ?_;refine vW 3 rfl ?_;refine nT 2 rfl fun K hK=> ?_;go_simp
      try rw[if_pos (by kernel_rfl)]
      go_wp2_with fail;have hHeld:=(⟨q0,q1,b1,v0⟩:_∧_∧_∧_);refine kO hK ?_;clear hK K;refine tW 4 (some 248) (.bool false) rfl hHeld ?_
      try simp only[pt]
      refine tW 5 (some 249) (.bool false) rfl hHeld ?_
      try simp only[pt]
      refine vW 6 rfl ?_;refine vT 7 rfl ?_;refine vW 8 rfl ?_;refine vW 9 rfl ?_;refine vW 10 rfl ?_;refine vT 11 rfl ?_;refine vW 12 rfl ?_;refine vW 13 rfl ?_;refine vT 14 rfl ?_;refine nT 15 rfl fun K hK=> ?_;go_simp
      try rw[if_pos (by kernel_rfl)]
      go_wp2_with fail;refine(HE2.out _).mono ?_;rintro y wy ⟨rfl,rfl⟩;go_wp2_with fail;have hHeld:=(⟨q0,q1,b1,v0⟩:_∧_∧_∧_);refine kO hK ?_;clear hK K;refine tW 16 (some 260) (.bool false) rfl hHeld ?_
      try simp only[pt]
      refine tW 17 (some 261) (.bool false) rfl hHeld ?_
      try simp only[pt]
      refine aR (by kernel_rfl) ?_ _;go_wp2;go_roundw
      case measure=>simp[intOf];exact VP.out
      repeat' first|exact⟨t+1,HJ2.out,rfl⟩|exact⟨t+1,HJ2.out,rfl,by assumption⟩|exact rfl|apply Exists.intro|apply And.intro
     ·obtain rfl:t=z:=by omega
      have hlt':¬(t:Int)<(t:Int):=by omega
      obtain⟨g5,o5,Ct,hg5,CW⟩:=(Reads.fD HN.out.2.2.1.row).2 (by have:=HZ.out;have:=HZ0.out;omega);have r0:=CW (0*2+0) _ (xJ Ed.out.1 (by omega));rw[show((fC p0)[0]!)= .float .f64 f0 from by rw[Ed.out.2];rfl,show o5+(0*2+0)=o5 by omega]at r0
      have hz1:(0:Int)<(t:Int):=by have:=HZ0.out;omega
      have HE3:=qd (fun(V:World)=>om f0 V);have mq:=qd (ac8 HN.out.1)
      have W9:=qd (show Calls Tryz.prog 27 #[pQ b] wr (fun y w'=>y= .returned (.slice none 0 0)∧Below wr.heap.size wr w')from by
       obtain⟨F9,a9,ids,d9,_,h2,_,_,_,hfn,hln⟩:=HN.out.1
       exact Mr (R:=R) (n:=n) ⟨a9,ids,d9,h2,hfn,hln⟩)
      have p9:=qd HN.out.2.2.2.2;subst Ct;clear CW hg5 HN;go_wp2_with fail;refine(HE3.out _).mono ?_;rintro y wy ⟨rfl,rfl⟩;go_wp2_with fail;refine mq.out.mono ?_;rintro y wy ⟨rfl,rfl⟩;go_wp2_with fail;refine W9.out.mono ?_;rintro y w14 ⟨rfl,ads⟩;have RH:=qd (jq p9.out ads);clear ads W9 p9;go_wp2;go_ret;exact⟨rfl,RH.out⟩
end Go.Proofs.YtnfjjbpmhcbelaaGreatDoor
