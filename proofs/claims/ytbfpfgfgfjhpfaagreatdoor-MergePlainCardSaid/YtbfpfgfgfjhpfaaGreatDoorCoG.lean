/- The same for a drawn region: one operation taken. No statement of the claim. -/
import Derived.Test.YtbfpfgfgfjhpfaaGreatDoorHeldT
import Derived.Test.YtbfpfgfgfjhpfaaGreatDoorSq
import Derived.RowKit
import Derived.Test.YtbfpfgfgfjhpfaaGreatDoorPlA
import Derived.Test.YtbfpfgfgfjhpfaaGreatDoorProg
import Derived.WalkKit
import Derived.WalkSpells
import Derived.WalkLawsBesides
import Derived.LaidEql
import Derived.Stop.Asserts
import Derived.RowKitTokens
import Derived.KernelRfl
import Derived.Outline
namespace Go.Proofs.YtbfpfgfgfjhpfaaGreatDoor
set_option maxRecDepth 100000
set_option maxHeartbeats 4000000
open Go Go.RowKit dP Go.Extern.Stop Go.Stop Go.Extern
section
section
variable {P : Program} {ops : Array Oper} {Q : Exit → Act → World → Prop} {md : Region.Mode} {S : World → Prop} {n : List Nat} {f : Nat} {listed : Array Bool} {a : Act} {w : World} {o1 : Op} {o2 : TypeId} {o3 : String} {o4 : Array Edge} {o5 : Option (Nat × Bool)}
theorem tW (i:Nat)(s:Option Tmp)(v:Value)(hi:ops[i]?=some ⟨s,o1,o2,o3,o4,o5⟩)(hS:S w)(h:bH P md ops Q S n f (listed.setIfInBounds i true) (a.put s v) w)(h1:Region.noSelect ops=true:=by kernel_rfl)(h2:Region.free md ops listed i=true:=by kernel_rfl)(h3:(Region.ready md ops listed).contains i=true:=by kernel_rfl)(h4:n.contains i=false:=by rfl)(h5:Region.wanted ⟨s,o1,o2,o3,o4,o5⟩ (yielded ops a.tmps)=true:=by rfl)(h7:∀w,True→(execOp a.eval ⟨s,o1,o2,o3,o4,o5⟩).run P w= .ok (.value v) w:=by rintro w-;go_simp)(h6:∀c b u,Q (.panic c) (b.put s v) u→Q (.panic c) b u:=by exact fun _ _ _ h=>h):bH P md ops Q S n (f+1) listed a w:=
  SY hi h1 h2 h3 h4 h6 (Or.inl ⟨h5,h7⟩) hS h
theorem tT (i:Nat)(s:Option Tmp)(v:Value)(hi:ops[i]?=some ⟨s,o1,o2,o3,o4,o5⟩)(h7:∀w,S w→(execOp a.eval ⟨s,o1,o2,o3,o4,o5⟩).run P w= .ok (.value v) w)(hS:S w)(h:bH P md ops Q S n f (listed.setIfInBounds i true) (a.put s v) w)(h1:Region.noSelect ops=true:=by kernel_rfl)(h2:Region.free md ops listed i=true:=by kernel_rfl)(h3:(Region.ready md ops listed).contains i=true:=by kernel_rfl)(h4:n.contains i=false:=by rfl)(h5:Region.wanted ⟨s,o1,o2,o3,o4,o5⟩ (yielded ops a.tmps)=true:=by rfl)(h8:xM md ops n i listed=true:=by kernel_rfl)(h6:∀c b u,Q (.panic c) (b.put s v) u→Q (.panic c) b u:=by exact fun _ _ _ h=>h):bH P md ops Q S n (f+1) listed a w:=
  aap hi h1 h2 h3 h4 h8 h6 (Or.inl ⟨h5,h7⟩) hS h
theorem nT (i:Nat){s:Option Tmp}(hi:ops[i]?=some ⟨s,o1,o2,o3,o4,o5⟩)(h:∀K:Act→World→Prop,RowKit.Hid (∀a' w',(i∉n→S w')→bH P md ops Q S n f (listed.setIfInBounds i true) a' w'→K a' w')→if Region.wanted ⟨s,o1,o2,o3,o4,o5⟩ (yielded ops a.tmps)=true then(Oper.mk s o1 o2 o3 o4 o5).wp P a w K Q else K (a.put s undef) w)(hr:Region.ready md ops listed=[i]:=by kernel_rfl):bH P md ops Q S n (f+1) listed a w:=p9 hi hr h
variable {s : Option Tmp} {v : Value} {a1 : Act}
theorem vW (i:Nat)(hi:ops[i]?=some ⟨s,o1,o2,o3,o4,o5⟩)(h:bH P md ops Q S n f (listed.setIfInBounds i true) a1 w)(h1:Region.noSelect ops=true:=by kernel_rfl)(h2:Region.free md ops listed i=true:=by kernel_rfl)(h3:(Region.ready md ops listed).contains i=true:=by kernel_rfl)(h4:n.contains i=false:=by rfl)(h5:Region.wanted ⟨s,o1,o2,o3,o4,o5⟩ (yielded ops a.tmps)=true:=by rfl)(h7:∀w,True→(execOp a.eval ⟨s,o1,o2,o3,o4,o5⟩).run P w= .ok (.value v) w:=by rintro w-;go_simp<;>rfl)(ha:a.put s v=a1:=by(try simp only[pt]);rfl)(hS:S w:=by exact hHeld)(h6:∀c b u,Q (.panic c) (b.put s v) u→Q (.panic c) b u:=by exact fun _ _ _ h=>h):bH P md ops Q S n (f+1) listed a w:=by
  subst ha;exact SY hi h1 h2 h3 h4 h6 (Or.inl ⟨h5,h7⟩) hS h
theorem vL (i:Nat)(hi:ops[i]?=some ⟨s,o1,o2,o3,o4,o5⟩)(h:bH P md ops Q S n f (listed.setIfInBounds i true) a1 w)(h1:Region.noSelect ops=true:=by kernel_rfl)(h2:Region.free md ops listed i=true:=by kernel_rfl)(h3:(Region.ready md ops listed).contains i=true:=by kernel_rfl)(h4:n.contains i=false:=by rfl)(h5:Region.wanted ⟨s,o1,o2,o3,o4,o5⟩ (yielded ops a.tmps)=true:=by rfl)(h7:∀w,True→(execOp a.eval ⟨s,o1,o2,o3,o4,o5⟩).run P w= .ok (.value v) w:=by rintro w-;go_simp<;>rfl)(h8:(n.any fun k=>listed.getD k true)=true:=by kernel_rfl)(ha:a.put s v=a1:=by(try simp only[pt]);rfl)(h6:∀c b u,Q (.panic c) (b.put s v) u→Q (.panic c) b u:=by exact fun _ _ _ h=>h):bH P md ops Q S n (f+1) listed a w:=by
  subst ha;exact adM hi h1 h2 h3 h4 h6 (Or.inl ⟨h5,h7⟩) h8 h
theorem vT (i:Nat)(hi:ops[i]?=some ⟨s,o1,o2,o3,o4,o5⟩)(h:bH P md ops Q S n f (listed.setIfInBounds i true) a1 w)(h1:Region.noSelect ops=true:=by kernel_rfl)(h2:Region.free md ops listed i=true:=by kernel_rfl)(h3:(Region.ready md ops listed).contains i=true:=by kernel_rfl)(h4:n.contains i=false:=by rfl)(h5:Region.wanted ⟨s,o1,o2,o3,o4,o5⟩ (yielded ops a.tmps)=true:=by rfl)(h7:∀w,S w→(execOp a.eval ⟨s,o1,o2,o3,o4,o5⟩).run P w= .ok (.value v) w:=by intro w hh;(try dsimp only at hh);go_simp<;>rfl)(h8:xM md ops n i listed=true:=by kernel_rfl)(ha:a.put s v=a1:=by(try simp only[pt]);rfl)(hS:S w:=by exact hHeld)(h6:∀c b u,Q (.panic c) (b.put s v) u→Q (.panic c) b u:=by exact fun _ _ _ h=>h):bH P md ops Q S n (f+1) listed a w:=by
  subst ha;exact aap hi h1 h2 h3 h4 h8 h6 (Or.inl ⟨h5,h7⟩) hS h
theorem vU (i:Nat)(hi:ops[i]?=some ⟨s,o1,o2,o3,o4,o5⟩)(h:bH P md ops Q S n f (listed.setIfInBounds i true) a1 w)(h1:Region.noSelect ops=true:=by kernel_rfl)(h2:Region.free md ops listed i=true:=by kernel_rfl)(h3:(Region.ready md ops listed).contains i=true:=by kernel_rfl)(h4:n.contains i=false:=by rfl)(h5:Region.wanted ⟨s,o1,o2,o3,o4,o5⟩ (yielded ops a.tmps)=false:=by rfl)(ha:a.put s undef=a1:=by(try simp only[pt]);rfl)(hS:S w:=by exact hHeld)(h6:∀c b u,Q (.panic c) (b.put s undef) u→Q (.panic c) b u:=by exact fun _ _ _ h=>h):bH P md ops Q S n (f+1) listed a w:=by
  subst ha;exact SY hi h1 h2 h3 h4 h6 (Or.inr ⟨h5,rfl⟩) hS h
theorem rT {id:Nat}(S:World→Prop)(n:List Nat)(h:bH P .any ops Q S n ops.size (Array.replicate ops.size false) a (World.drew w))(hm:P.follows .mixedOrders=true:=by kernel_rfl):(Code.region id ops true).wp P Q a w:=Yk S n hm h
theorem kO {K:Act→World→Prop}{i:Nat}(hK:RowKit.Hid (∀a' w',(i∉n→S w')→bH P md ops Q S n f listed a' w'→K a' w'))(h:bH P md ops Q S n f listed a1 w)(ha:a=a1:=by(try simp only[pt]);rfl)(hs:i∉n→S w:=by first|exact fun h=>absurd (by decide) h|(intro _;exact hHeld)|(intro _;(try dsimp only);go_simp)):K a w:=by
  subst ha;exact hK.out _ _ hs h
end
end
section
theorem aA {W W':World}{a:Addr}{v:Value}(hb:Below W.heap.size W W')(h:W.cell? a=some v):W'.cell? a=some v:=(hb.cell (World.block_lt_of_cell? W a h)).trans h
theorem bX {a b c:World}(hb:Below b.heap.size b c)(h:Below a.heap.size a b):Below a.heap.size a c:=h.trans (hb.mono h.size)
def sK (a l:bE)(m:Int):List Value:=[.int .i64 a.p,.int .i64 a.v,.int .i64 a.u,.int .i64 l.p,.int .i64 l.v,.int .i64 l.u,.bool false,.int .i64 m]
structure Met (w:World)(mb:Nat)(t:TypeId)(pre post:List Value)(mo:Nat)(a l:bE)(m:Int):Prop where
 len:pre.length=mo
 blk:aj w mb t (pre++(sK a l m++post)).toArray
section
variable {w w' : World} {mb mo : Nat} {t : TypeId} {pre post : List Value} {a l : bE} {m : Int}
theorem Met.at_ (h:Met w mb t pre post mo a l m)(i:Nat)(hi:i<8):w.cell? ⟨mb,mo+i,none⟩=(sK a l m)[i]?:=by
 rw[h.blk.cell,List.getElem?_toArray,List.getElem?_append_right (by have:=h.len;omega),List.getElem?_append_left (by have:=h.len;simp[sK];omega)];congr 1;have:=h.len;omega
theorem Met.vw (h:Met w mb t pre post mo a l m)(i:Nat):w.frozen? ⟨mb,i,none⟩=false:=h.blk.frozen i
theorem Met.lt (h:Met w mb t pre post mo a l m):mb<w.heap.size:=h.blk.lt
theorem Met.mod {S:List Nat}(h:Met w mb t pre post mo a l m)(hm:Mod S w w')(hg:mb∉S):Met w' mb t pre post mo a l m:=⟨h.len,h.blk.mod hm hg⟩
instance {w w':World}{mb:Nat}{t:TypeId}{pre post:List Value}{mo:Nat}{a l:bE}{m:Int}:Md (Met w mb t pre post mo a l m) w w' (Met w' mb t pre post mo a l m) (fun S=>mb∉S):=⟨fun h hm hs=>Met.mod h hm hs⟩
theorem Met.below (h:Met w mb t pre post mo a l m)(hb:Below w.heap.size w w'):Met w' mb t pre post mo a l m:=⟨h.len,h.blk.below hb h.lt⟩
theorem set_mid (pre x post:List Value)(i:Nat)(u:Value)(hi:i<x.length):(pre++(x++post)).toArray.setIfInBounds (pre.length+i) u=(pre++(x.set i u++post)).toArray:=by
 rw[List.setIfInBounds_toArray,List.set_append_right _ _ (by omega),Nat.add_sub_cancel_left,List.set_append_left _ _ hi]
theorem Met.abd (h:Met w mb t pre post mo a l m)(x:bE):Met (((w.setCell ⟨mb,mo,none⟩ (.int .i64 x.p)).setCell ⟨mb,mo+1,none⟩ (.int .i64 x.v)).setCell ⟨mb,mo+2,none⟩ (.int .i64 x.u)) mb t pre post mo x l m:=by
 refine⟨h.len, ?_⟩;have:=((h.blk.ak (mo+0) (.int .i64 x.p)).ak (mo+1) (.int .i64 x.v)).ak (mo+2) (.int .i64 x.u);rw[←h.len,set_mid _ _ _ _ _ (by simp[sK]),set_mid _ _ _ _ _ (by simp[sK]),set_mid _ _ _ _ _ (by simp[sK])]at this;rw[←h.len];exact this
theorem Met.Nz (h:Met w mb t pre post mo a l m)(x:bE):Met (((w.setCell ⟨mb,mo+3,none⟩ (.int .i64 x.p)).setCell ⟨mb,mo+3+1,none⟩ (.int .i64 x.v)).setCell ⟨mb,mo+3+2,none⟩ (.int .i64 x.u)) mb t pre post mo a x m:=by
 refine⟨h.len, ?_⟩;have:=((h.blk.ak (mo+3) (.int .i64 x.p)).ak (mo+4) (.int .i64 x.v)).ak (mo+5) (.int .i64 x.u);rw[←h.len,set_mid _ _ _ _ _ (by simp[sK]),set_mid _ _ _ _ _ (by simp[sK]),set_mid _ _ _ _ _ (by simp[sK])]at this;rw[←h.len];exact this
end
def xD (w:World)(mb:Nat)(t:TypeId)(pre post:List Value)(mo:Nat)(a l:bE)(m:Int)(c:bE)(e:Ending)(w':World):Prop:=
 e= .returned undef∧Met w' mb t pre post mo (jA a c) (jA l c) m∧Mod [mb] w w'
theorem Ko (mb:Nat)(t:TypeId)(pre post:List Value)(mo:Nat)(a l:bE)(m:Int)(c:bE)(w:World)(h:Met w mb t pre post mo a l m):
  Calls Tryz.prog 159 #[.pointer (some ⟨mb,mo,none⟩),oF c] w (xD w mb t pre post mo a l m c):=by
 have HP:=qd (fun(x:bE) (V:World)=>show Calls Tryz.prog 77 #[.agg #[.int .i64 x.p,.int .i64 x.v,.int .i64 x.u],.agg #[.int .i64 c.p,.int .i64 c.v,.int .i64 c.u]] V (fun e w'=>e= .returned (.agg #[.int .i64 (jA x c).p,.int .i64 (jA x c).v,.int .i64 (jA x c).u])∧Below V.heap.size V w')from Bp x c V);unfold oF;have hB0:=(Below.refl w.heap.size w).alloc (Nat.le_refl _) (.cells #[.int .i64 c.p,.int .i64 c.v,.int .i64 c.u] 109);have hM:=h.below hB0;have hC:=aj.new w 109 #[.int .i64 c.p,.int .i64 c.v,.int .i64 c.u];have hlt:=h.lt;obtain⟨W,hW⟩:∃W,W=w.alloc (.cells #[.int .i64 c.p,.int .i64 c.v,.int .i64 c.u] 109):=⟨_,rfl⟩;obtain⟨p,hp⟩:∃p,p=w.heap.size:=⟨_,rfl⟩;rw[←hW]at hB0 hM hC;rw[←hp]at hC;have m0:W.cell? ⟨mb,mo,none⟩=some (.int .i64 a.p):=hM.at_ 0 (by omega);have m1:W.cell? ⟨mb,mo+1,none⟩=some (.int .i64 a.v):=hM.at_ 1 (by omega);have m2:W.cell? ⟨mb,mo+2,none⟩=some (.int .i64 a.u):=hM.at_ 2 (by omega);have m3:W.cell? ⟨mb,mo+3,none⟩=some (.int .i64 l.p):=hM.at_ 3 (by omega);have m4:W.cell? ⟨mb,mo+3+1,none⟩=some (.int .i64 l.v):=hM.at_ 4 (by omega);have m5:W.cell? ⟨mb,mo+3+2,none⟩=some (.int .i64 l.u):=hM.at_ 5 (by omega);obtain⟨c0,c1,c2⟩:=hC.c3;have HW:=qd (And.intro hp hW);have HB0:=qd hB0;clear hW hp hC h hB0;go_in;go_upto_region 1 with fail;rw[←HW.out.2,←HW.out.1]
 refine rT (fun w'=>(w'.cell? ⟨mb,mo,none⟩=some (.int .i64 a.p)∧w'.cell? ⟨mb,mo+1,none⟩=some (.int .i64 a.v)∧w'.cell? ⟨mb,mo+2,none⟩=some (.int .i64 a.u)∧w'.cell? ⟨mb,mo+3,none⟩=some (.int .i64 l.p)∧w'.cell? ⟨mb,mo+3+1,none⟩=some (.int .i64 l.v)∧w'.cell? ⟨mb,mo+3+2,none⟩=some (.int .i64 l.u)∧w'.cell? ⟨p,0,none⟩=some (.int .i64 c.p)∧w'.cell? ⟨p,1,none⟩=some (.int .i64 c.v)∧w'.cell? ⟨p,2,none⟩=some (.int .i64 c.u))∧Below W.heap.size W w') [16,19] ?_;have hHeld:(fun w'=>(w'.cell? ⟨mb,mo,none⟩=some (.int .i64 a.p)∧w'.cell? ⟨mb,mo+1,none⟩=some (.int .i64 a.v)∧w'.cell? ⟨mb,mo+2,none⟩=some (.int .i64 a.u)∧w'.cell? ⟨mb,mo+3,none⟩=some (.int .i64 l.p)∧w'.cell? ⟨mb,mo+3+1,none⟩=some (.int .i64 l.v)∧w'.cell? ⟨mb,mo+3+2,none⟩=some (.int .i64 l.u)∧w'.cell? ⟨p,0,none⟩=some (.int .i64 c.p)∧w'.cell? ⟨p,1,none⟩=some (.int .i64 c.v)∧w'.cell? ⟨p,2,none⟩=some (.int .i64 c.u))∧Below W.heap.size W w') (World.drew W):=⟨⟨m0,m1,m2,m3,m4,m5,c0,c1,c2⟩,(Below.refl _ _).drew⟩;refine vW 0 rfl ?_;refine vW 1 rfl ?_;refine vW 2 rfl ?_;refine vW 3 rfl ?_;refine vW 4 rfl ?_;refine vT 5 rfl ?_;refine vT 6 rfl ?_;refine vW 8 rfl ?_;refine vW 9 rfl ?_;refine vW 10 rfl ?_;refine vT 11 rfl ?_;refine vT 12 rfl ?_;refine nT 7 rfl fun K hK=> ?_;go_simp;refine(HP.out a _).mono ?_;rintro e w1 ⟨rfl,hb1⟩;replace hb1:Below W.heap.size W w1:=bX hb1 (Below.refl _ _).drew;go_wp2_with fail
 have hHeld:=show(fun w'=>(w'.cell? ⟨mb,mo,none⟩=some (.int .i64 a.p)∧w'.cell? ⟨mb,mo+1,none⟩=some (.int .i64 a.v)∧w'.cell? ⟨mb,mo+2,none⟩=some (.int .i64 a.u)∧w'.cell? ⟨mb,mo+3,none⟩=some (.int .i64 l.p)∧w'.cell? ⟨mb,mo+3+1,none⟩=some (.int .i64 l.v)∧w'.cell? ⟨mb,mo+3+2,none⟩=some (.int .i64 l.u)∧w'.cell? ⟨p,0,none⟩=some (.int .i64 c.p)∧w'.cell? ⟨p,1,none⟩=some (.int .i64 c.v)∧w'.cell? ⟨p,2,none⟩=some (.int .i64 c.u))∧Below W.heap.size W w') _ from⟨⟨aA hb1 m0,aA hb1 m1,aA hb1 m2,aA hb1 m3,aA hb1 m4,aA hb1 m5,aA hb1 c0,aA hb1 c1,aA hb1 c2⟩,hb1⟩;refine kO hK ?_;clear hK K;refine nT 13 rfl fun K hK=> ?_;go_simp;refine(HP.out l _).mono ?_;rintro e w2 ⟨rfl,hb2⟩;replace hb2:Below W.heap.size W w2:=bX hb2 hb1;have hM2:=hM.below hb2;have fz:=hM2.vw;have n0:=aA hb2 m0;have n1:=aA hb2 m1;have n2:=aA hb2 m2;have n3:=aA hb2 m3;have n4:=aA hb2 m4;have n5:=aA hb2 m5;have g0:=fz mo;have g1:=fz (mo+1);have g2:=fz (mo+2);have g3:=fz (mo+3);have g4:=fz (mo+3+1);have g5:=fz (mo+3+2);clear fz;go_wp2_with fail
 have hHeld:=show(fun w'=>(w'.cell? ⟨mb,mo,none⟩=some (.int .i64 a.p)∧w'.cell? ⟨mb,mo+1,none⟩=some (.int .i64 a.v)∧w'.cell? ⟨mb,mo+2,none⟩=some (.int .i64 a.u)∧w'.cell? ⟨mb,mo+3,none⟩=some (.int .i64 l.p)∧w'.cell? ⟨mb,mo+3+1,none⟩=some (.int .i64 l.v)∧w'.cell? ⟨mb,mo+3+2,none⟩=some (.int .i64 l.u)∧w'.cell? ⟨p,0,none⟩=some (.int .i64 c.p)∧w'.cell? ⟨p,1,none⟩=some (.int .i64 c.v)∧w'.cell? ⟨p,2,none⟩=some (.int .i64 c.u))∧Below W.heap.size W w') _ from⟨⟨aA hb2 m0,aA hb2 m1,aA hb2 m2,aA hb2 m3,aA hb2 m4,aA hb2 m5,aA hb2 c0,aA hb2 c1,aA hb2 c2⟩,hb2⟩;refine kO hK ?_;clear hK K;refine vW 14 rfl ?_;refine vW 15 rfl ?_;refine nT 16 rfl fun K hK=> ?_;go_simp;refine kO hK ?_;clear hK K;refine vL 17 rfl ?_;refine vL 18 rfl ?_;refine nT 19 rfl fun K hK=> ?_;go_simp;refine kO hK ?_;clear hK K;refine aY (by kernel_rfl) ?_ _;go_wp2;go_end0;exact⟨rfl,(hM2.abd _).Nz _,((((((Mod.of_below (HB0.out.trans (hb2.mono HB0.out.size)) [mb]).ak (.inl (by simp)) _ _).ak (.inl (by simp)) _ _).ak (.inl (by simp)) _ _).ak (.inl (by simp)) _ _).ak (.inl (by simp)) _ _).ak (.inl (by simp)) _ _⟩
end
def aJ (p:Option Addr)(c:bE):Value:= .agg #[.pointer p,.int .i64 c.p,.int .i64 c.v,.int .i64 c.u]
theorem lu (p:Option Addr)(w:World):Calls Tryz.prog 74 #[.pointer p] w fun e w'=>e= .returned (aJ p ⟨1,0,0⟩)∧Below w.heap.size w w':=by
 unfold aJ;go_in;go_wp2;exact bodyPost_ret (v:= .agg #[.pointer p,.int .i64 1,.int .i64 0,.int .i64 0]) (by simp[results,Tryz.results74,go_sem]) rfl ⟨rfl,(Below.refl _ _).alloc (Nat.le_refl _) _⟩
theorem vY (p:Option Addr)(w:World):Calls Tryz.prog 273 #[.pointer p] w fun e w'=>e= .returned (aJ p ⟨0,1,0⟩)∧Below w.heap.size w w':=by
 unfold aJ;go_in;go_wp2;exact bodyPost_ret (v:= .agg #[.pointer p,.int .i64 0,.int .i64 1,.int .i64 0]) (by simp[results,Tryz.results273,go_sem]) rfl ⟨rfl,(Below.refl _ _).alloc (Nat.le_refl _) _⟩
theorem Jz (c:bE)(w:World):Calls Tryz.prog 176 #[aJ none c] w fun e w'=>e= .returned undef∧Below w.heap.size w w':=by
 unfold aJ;go_in;go_wp2;go_end0;exact⟨rfl,(Below.refl _ _).alloc (Nat.le_refl _) _⟩
theorem xD.from {w w1 w':World}{mb:Nat}{t:TypeId}{pre post:List Value}{mo:Nat}{a l:bE}{m:Int}{c:bE}{e:Ending}(h:xD w1 mb t pre post mo a l m c e w')(hb:Below w.heap.size w w1):xD w mb t pre post mo a l m c e w':=
 ⟨h.1,h.2.1,(Mod.of_below hb [mb]).then h.2.2⟩
theorem S9 (mb:Nat)(t:TypeId)(pre post:List Value)(mo:Nat)(a l:bE)(m:Int)(c:bE)(w:World)(h:Met w mb t pre post mo a l m):
  Calls Tryz.prog 176 #[aJ (some ⟨mb,mo,none⟩) c] w (xD w mb t pre post mo a l m c):=by
 unfold aJ;have hB:=(Below.refl w.heap.size w).alloc (Nat.le_refl _) (.cells #[.pointer (some ⟨mb,mo,none⟩),.int .i64 c.p,.int .i64 c.v,.int .i64 c.u] 154);have HA:=qd (show Calls Tryz.prog 159 #[.pointer (some ⟨mb,mo,none⟩),.agg #[.int .i64 c.p,.int .i64 c.v,.int .i64 c.u]] (w.alloc (.cells #[.pointer (some ⟨mb,mo,none⟩),.int .i64 c.p,.int .i64 c.v,.int .i64 c.u] 154)) _ from Ko mb t pre post mo a l m c _ (h.below hB));have HB:=qd hB;clear h hB;go_in;go_wp2_with fail;refine HA.out.mono ?_;rintro e w1 ⟨rfl,hM,hm⟩;go_wp2;go_end0;exact⟨rfl,hM,(Mod.of_below HB.out [mb]).then hm⟩
theorem Fj (mb:Nat)(t:TypeId)(pre post:List Value)(mo:Nat)(a l:bE)(m:Int)(w:World)(h:Met w mb t pre post mo a l m):
  Calls Tryz.prog 71 #[.pointer (some ⟨mb,mo,none⟩)] w fun e w'=>e= .returned undef∧Met w' mb t pre post mo a ⟨0,0,0⟩ m∧Mod [mb] w w':=by
 have m3:w.cell? ⟨mb,mo+3,none⟩=some (.int .i64 l.p):=h.at_ 3 (by omega);have m4:w.cell? ⟨mb,mo+3+1,none⟩=some (.int .i64 l.v):=h.at_ 4 (by omega);have m5:w.cell? ⟨mb,mo+3+2,none⟩=some (.int .i64 l.u):=h.at_ 5 (by omega);have g3:=h.vw (mo+3);have g4:=h.vw (mo+3+1);have g5:=h.vw (mo+3+2);have HM:=qd h;clear h;go_in;go_wp2;go_end0;exact⟨rfl,HM.out.Nz ⟨0,0,0⟩,(((Mod.refl [mb] w).ak (.inl (by simp)) _ _).ak (.inl (by simp)) _ _).ak (.inl (by simp)) _ _⟩
theorem sM (mb:Nat)(t:TypeId)(pre post:List Value)(mo:Nat)(a l:bE)(m n:Int)(hn:1≤n)(w:World)(h:Met w mb t pre post mo a l m):
  Calls Tryz.prog 111 #[.pointer (some ⟨mb,mo,none⟩),.int .i64 n] w (xD w mb t pre post mo a l m ⟨0,0,n⟩):=by
 have m6:w.cell? ⟨mb,mo+6,none⟩=some (.bool false):=h.at_ 6 (by omega)
 have hn':¬n<1:=by omega
 have hz:=(Below.refl w.heap.size w).drew;have HA:=qd (show Calls Tryz.prog 159 #[.pointer (some ⟨mb,mo,none⟩),.agg #[.int .i64 0,.int .i64 0,.int .i64 n]] w.drew _ from Ko mb t pre post mo a l m ⟨0,0,n⟩ _ (h.below hz));clear h hn;go_in;go_wp2;refine rT (fun w'=>w'.cell? ⟨mb,mo+6,none⟩=some (.bool false)) [] ?_;have hHeld:=m6;refine vW 0 rfl ?_;refine vW 1 rfl ?_;refine vW 2 rfl ?_;refine vT 3 rfl ?_;refine vW 4 rfl ?_;refine vU 5 rfl ?_;refine vU 6 rfl ?_;refine vU 7 rfl ?_;refine vU 8 rfl ?_;refine vU 9 rfl ?_;refine vU 10 rfl ?_;refine vU 11 rfl ?_;refine vU 12 rfl ?_;refine vU 13 rfl ?_;refine vU 14 rfl ?_;refine vU 15 rfl ?_;refine vU 16 rfl ?_;refine vW 17 rfl ?_;refine aY (by kernel_rfl) ?_ _;go_wp2_with fail;refine HA.out.mono ?_;rintro e w1 ⟨rfl,hM,hm⟩;go_wp2;go_end0;exact⟨rfl,hM,(Mod.of_below hz [mb]).then hm⟩
def bC (g:Addr):Value:= .agg #[.pointer (some g)]
theorem JA (g:Addr)(c:bE)(w:World):Calls Tryz.prog 130 #[.pointer (some g),aJ none c] w fun e w'=>e= .returned (bC g)∧Below w.heap.size w w':=by
 have hB:=((Below.refl w.heap.size w).alloc (Nat.le_refl _) (.cells #[.pointer none,.int .i64 c.p,.int .i64 c.v,.int .i64 c.u] 154)).alloc (by simp) (.cells #[.pointer none] 195);have hD:=aj.new (w.alloc (.cells #[.pointer none,.int .i64 c.p,.int .i64 c.v,.int .i64 c.u] 154)) 195 #[.pointer none];rw[World.size_alloc]at hD;obtain⟨W,hW⟩:∃W,W=(w.alloc (.cells #[.pointer none,.int .i64 c.p,.int .i64 c.v,.int .i64 c.u] 154)).alloc (.cells #[.pointer none] 195):=⟨_,rfl⟩;rw[←hW]at hB hD;have HV:=qd (Jz c W);unfold aJ at HV⊢
 try unfold bC
 have HW:=qd hW;clear hW;go_in;go_wp2_with fail;rw[←HW.out];refine(HV.out).mono ?_;rintro e w1 ⟨rfl,hb⟩;have hD1:=hD.below hb hD.lt;have d0:=hD1.cell 0;have f0:=hD1.frozen 0;simp only[List.getElem?_toArray,List.getElem?_cons_zero]at d0;have hbw:=hB.trans (hb.mono hB.size);go_wp2;exact bodyPost_ret (v:= .agg #[.pointer (some g)]) (by simp[results,Tryz.results130,go_sem,d0]) rfl ⟨rfl,hbw.setCell (p:=⟨w.heap.size+1,0,none⟩) (by simp) _⟩
def Ym (w:World)(mb:Nat)(t:TypeId)(pre post:List Value)(mo:Nat)(a l:bE)(m:Int)(c:bE)(g:Addr)(e:Ending)(w':World):Prop:=
 e= .returned (bC g)∧Met w' mb t pre post mo (jA a c) (jA l c) m∧Mod [mb] w w'
theorem wO (g:Addr)(mb:Nat)(t:TypeId)(pre post:List Value)(mo:Nat)(a l:bE)(m:Int)(c:bE)(w:World)(h:Met w mb t pre post mo a l m):Calls Tryz.prog 130 #[.pointer (some g),aJ (some ⟨mb,mo,none⟩) c] w (Ym w mb t pre post mo a l m c g):=by
 have hB:=((Below.refl w.heap.size w).alloc (Nat.le_refl _) (.cells #[.pointer (some ⟨mb,mo,none⟩),.int .i64 c.p,.int .i64 c.v,.int .i64 c.u] 154)).alloc (by simp) (.cells #[.pointer none] 195);have hD:=aj.new (w.alloc (.cells #[.pointer (some ⟨mb,mo,none⟩),.int .i64 c.p,.int .i64 c.v,.int .i64 c.u] 154)) 195 #[.pointer none];rw[World.size_alloc]at hD;obtain⟨W,hW⟩:∃W,W=(w.alloc (.cells #[.pointer (some ⟨mb,mo,none⟩),.int .i64 c.p,.int .i64 c.v,.int .i64 c.u] 154)).alloc (.cells #[.pointer none] 195):=⟨_,rfl⟩;rw[←hW]at hB hD;have hlt:=h.lt;have HV:=qd (S9 mb t pre post mo a l m c W (h.below hB));clear h;unfold aJ at HV⊢
 try unfold bC
 have HW:=qd hW;clear hW;go_in;go_wp2_with fail;rw[←HW.out];refine(HV.out).mono ?_;rintro e w1 ⟨rfl,hM,hm⟩
 have hne:w.heap.size+1≠mb:=by omega
 have hD1:=hD.mod hm (by simpa using hne);have d0:=hD1.cell 0;have f0:=hD1.frozen 0;simp only[List.getElem?_toArray,List.getElem?_cons_zero]at d0;have hbw:=(Mod.of_below hB [mb]).then hm;go_wp2;exact bodyPost_ret (v:= .agg #[.pointer (some g)]) (by simp[results,Tryz.results130,go_sem,d0]) rfl ⟨rfl,⟨hM.len,hM.blk.far (p:=⟨w.heap.size+1,0,none⟩) (fun e=>hne e.symm) _⟩,hbw.ak (.inr (by simp)) _ _⟩
section
variable {E : Nat → Addr} {w w' : World} {B j : Nat}
theorem Yn (v:Value)(w:World):(Extern.ReflectliteType.typeOf #[.iface 325 v]).run Tryz.prog w= .ok (.iface 215 (.agg #[.pointer (some ⟨15,325,none⟩)])) w:=by kernel_rfl
def acd:Array Value→Sem Value:=Extern.ReflectliteType.method fun t=>do Extern.Rtype.noPackHeld "Comparable" t;pure (.bool (←typeInfo t).comparable)
theorem NA (w:World):(acd #[.agg #[.pointer (some ⟨15,325,none⟩)]]).run Tryz.prog w= .ok (.bool true) w:=by kernel_rfl
theorem Dc (v:Value)(w:World):(Go.method 476 215 v "Comparable").run Tryz.prog w= .ok (291,v) w:=by kernel_rfl
theorem ace:(Tryz.prog.info? 325).map (·.comparable)=some true:=by kernel_rfl
theorem acf:(Tryz.prog.info? 364).map (·.size)=some 1:=by kernel_rfl
def afB (a:Addr):Value:= .iface 325 (.pointer (some a))
theorem abe (a:Addr)(w:World):
  Calls Tryz.prog 55 #[.iface 325 (.pointer (some a)),.iface 325 (.pointer (some a))] w fun e w'=>e= .returned (.bool true)∧w=w':=by
 obtain⟨i,hi,hcmp⟩:=Option.map_eq_some_iff.1 ace;obtain⟨j,hj,hjs⟩:=Option.map_eq_some_iff.1 acf;have h8:=@run_callFunc_extern Tryz.prog 83 _ Extern.ReflectliteType.typeOf Tryz.func83 (by kernel_rfl) (by kernel_rfl) (by kernel_rfl) (by kernel_rfl);have h32:=@run_callFunc_extern Tryz.prog 291 _ acd Tryz.func291 (by kernel_rfl) (by kernel_rfl) (by kernel_rfl) (by kernel_rfl);have tT:=Yn;have cT:=NA;have mR:=Dc;have heq:=run_eql_iface_ptr_same (P:=Tryz.prog) w a Tryz.underlying44 Tryz.underlying325 hi hcmp hj;go_in;go_wp2;refine wp_loop_rounds 1 ?_;rw[rounds_succ];go_wp2;go_ret;exact⟨rfl,rfl⟩
def gE:Nat→Nat
 |1=>8 |2=>5 |3=>14 |4=>2 |5=>3 |6=>7 |7=>11 |8=>0
 |9=>0|10=>10 |11=>12 |12=>9 |13=>0|14=>4 |15=>0|_=>1
structure jh (E:Nat→Addr)(w:World):Prop where
 cell:∀k,1≤k→k≤16→w.cell? ⟨gE k,0,none⟩=some (.iface 325 (.pointer (some (E k))))
 obj:∀k,1≤k→k≤16→∃c t,w.heap[(E k).block]?=some (.cells c t (0,0))
 inj:∀j k,1≤j→j≤16→1≤k→k≤16→E j=E k→j=k
theorem jh.of_block (h:jh E w)(hb:∀k,k<w.heap.size→w'.heap[k]?=w.heap[k]?):jh E w':=by
 refine⟨fun k h1 h2=> ?_,fun k h1 h2=> ?_,h.inj⟩
 ·have hc:=h.cell k h1 h2;rw[World.cell?_of_block (w:=w) (hb _ (World.block_lt_of_cell? w _ hc))];exact hc
 ·obtain⟨c,t,ho⟩:=h.obj k h1 h2;have:(E k).block<w.heap.size:=(Array.getElem?_eq_some_iff.1 ho).1;exact⟨c,t,(hb _ this).trans ho⟩
theorem jh.below (h:jh E w)(hb:Below B w w')(hB:w.heap.size≤B):jh E w':=h.of_block fun k hk=>hb.block k (by omega)
theorem jh.alloc (h:jh E w)(o:Obj):jh E (w.alloc o):=h.of_block fun k hk=>Below.heap_alloc w o k hk
theorem jh.drew (h:jh E w):jh E w.drew:=h.of_block fun _ _=>rfl
theorem jh.drewN (h:jh E w)(n:Nat):jh E (w.drewN n):=h.of_block fun _ _=>rfl
def gN (E:Nat→Addr)(w:World)(k:Nat):Prop:=w.cell? ⟨gE k,0,none⟩=some (.iface 325 (.pointer (some (E k))))
theorem gN.of_block (h:gN E w j)(hb:∀k,k<w.heap.size→w'.heap[k]?=w.heap[k]?):gN E w' j:=
 (World.cell?_of_block (hb _ (World.block_lt_of_cell? w _ h))).trans h
theorem gN.below (h:gN E w j)(hb:Below B w w')(hB:w.heap.size≤B):gN E w' j:=h.of_block fun k hk=>hb.block k (by omega)
theorem gN.alloc (h:gN E w j)(o:Obj):gN E (w.alloc o) j:=h.of_block fun k hk=>Below.heap_alloc w o k hk
theorem gN.drewN (h:gN E w j)(n:Nat):gN E (w.drewN n) j:=h.of_block fun _ _=>rfl
theorem jh.at_ (h:jh E w)(k:Nat)(h1:1≤k)(h2:k≤16):gN E w k:=h.cell k h1 h2
def mW (E:Nat→Addr)(k:Nat):Value:=if k=0 then .nilIface else .iface 325 (.pointer (some (E k)))
theorem Df (E:Nat→Addr):mW E 0= .nilIface:=rfl
theorem nP (E:Nat→Addr){k:Nat}(h:1≤k):mW E k= .iface 325 (.pointer (some (E k))):=by unfold mW;rw[if_neg (by omega)]
def ad9 (E:Nat→Addr):List Value:=(List.range 16).map fun i=> .iface 325 (.pointer (some (E (i+1))))
end
section
def fP (l:List Nat)(es:List av):List Value:= .int .u64 ((w8 l:Nat):Int)::es.flatMap aG
structure cK (w:World)(gb:Nat)(t:TypeId)(pre post:List Value)(go:Nat)(l:List Nat)(es:List av):Prop where
 len:pre.length=go
 l8:l.length=8
 bytes:Bytes l
 e8:es.length=8
 blk:aj w gb t (pre++(fP l es++post)).toArray
theorem gV (es:List av):(es.flatMap aG).length=3*es.length:=by
 induction es with
 |nil=>rfl
 |cons e es ih=>simp[aG,ih];omega
theorem Gm (es:List av)(i j:Nat)(hi:i<es.length)(hj:j<3):(es.flatMap aG)[3*i+j]?=(aG es[i])[j]?:=by
 induction es generalizing i with
 |nil=>simp at hi
 |cons e es ih=>
  rw[List.flatMap_cons]
  cases i with
  |zero=>rw[List.getElem?_append_left (by simp[aG];omega)];simp
  |succ i=>
   rw[List.getElem?_append_right (by simp[aG];omega)];have:=ih i (by simpa using hi);rw[show 3*(i+1)+j-(aG e).length=3*i+j by simp[aG];omega,this];rfl
theorem NC (es:List av)(i:Nat)(hi:i<es.length)(e:av):(((es.flatMap aG).set (3*i) (.int .u64 (e.key:Int))).set (3*i+1) (.int .u64 (e.val:Int))).set (3*i+2) (.int .u64 (e.hash:Int))=(es.set i e).flatMap aG:=by
 induction es generalizing i with
 |nil=>simp at hi
 |cons x es ih=>
  cases i with
  |zero=>simp[aG]
  |succ i=>
   have h:=ih i (by simpa using hi);have hl:(aG x).length=3:=rfl;rw[List.set_cons_succ,List.flatMap_cons,List.flatMap_cons,←h,List.set_append_right _ _ (by omega),List.set_append_right _ _ (by omega),List.set_append_right _ _ (by omega)];rw[show 3*(i+1)-(aG x).length=3*i by omega,show 3*(i+1)+1-(aG x).length=3*i+1 by omega,show 3*(i+1)+2-(aG x).length=3*i+2 by omega]
section
variable {w w' : World} {gb go : Nat} {t : TypeId} {pre post : List Value} {l : List Nat} {es : List av}
theorem cK.lt (h:cK w gb t pre post go l es):gb<w.heap.size:=h.blk.lt
theorem cK.vw (h:cK w gb t pre post go l es)(i:Nat):w.frozen? ⟨gb,i,none⟩=false:=h.blk.frozen i
theorem cK.mod {S:List Nat}(h:cK w gb t pre post go l es)(hm:Mod S w w')(hg:gb∉S):cK w' gb t pre post go l es:=⟨h.len,h.l8,h.bytes,h.e8,h.blk.mod hm hg⟩
instance {w w':World}{gb:Nat}{t:TypeId}{pre post:List Value}{go:Nat}{l:List Nat}{es:List av}:Md (cK w gb t pre post go l es) w w' (cK w' gb t pre post go l es) (fun S=>gb∉S):=⟨fun h hm hs=>h.mod hm hs⟩
theorem cK.below (h:cK w gb t pre post go l es)(hb:Below w.heap.size w w'):cK w' gb t pre post go l es:=⟨h.len,h.l8,h.bytes,h.e8,h.blk.below hb h.lt⟩
theorem cK.alloc (h:cK w gb t pre post go l es)(o:Obj):cK (w.alloc o) gb t pre post go l es:=h.below ((Below.refl _ _).alloc (Nat.le_refl _) o)
theorem cK.word (h:cK w gb t pre post go l es):w.cell? ⟨gb,go,none⟩=some (.int .u64 ((w8 l:Nat):Int)):=by
 rw[h.blk.cell,List.getElem?_toArray,List.getElem?_append_right (by have:=h.len;omega)];simp[fP,h.len]
theorem cK.at_ (h:cK w gb t pre post go l es)(i j:Nat)(hi:i<8)(hj:j<3):w.cell? ⟨gb,go+1+i*3+j,none⟩=(aG (es.getD i ⟨0,0,0⟩))[j]?:=by
 have h8:i<es.length:=by have:=h.e8;omega
 rw[h.blk.cell,List.getElem?_toArray,List.getElem?_append_right (by have:=h.len;omega),List.getElem?_append_left (by have:=h.len;rw[fP,List.length_cons,gV];omega)];rw[show go+1+i*3+j-pre.length=(3*i+j)+1 by have:=h.len;omega,fP,List.getElem?_cons_succ,Gm es i j h8 hj,dP.getD_in h8]
theorem cK.abf (h:cK w gb t pre post go l es)(i:Nat)(hi:i<8)(v:Nat):cK (w.setCell ⟨gb,go+1+i*3+1,none⟩ (.int .u64 (v:Int))) gb t pre post go l (es.set i {es.getD i ⟨0,0,0⟩with val:=v}):=by
 have h8:i<es.length:=by have:=h.e8;omega
 refine⟨h.len,h.l8,h.bytes,by rw[List.length_set];exact h.e8, ?_⟩;have:=h.blk.ak (go+(3*i+1+1)) (.int .u64 (v:Int));rw[←h.len,set_mid _ _ _ _ _ (by rw[fP,List.length_cons,gV];omega)]at this;rw[fP,List.set_cons_succ]at this;have e1:=NC es i h8 {es.getD i ⟨0,0,0⟩with val:=v};have g0:=Gm es i 0 h8 (by omega);have g2:=Gm es i 2 h8 (by omega);rw[dP.getD_in h8]at e1⊢;simp only[aG,Nat.add_zero,List.getElem?_cons_zero,List.getElem?_cons_succ]at g0 g2
 have hk:(es.flatMap aG).set (3*i) (.int .u64 (es[i].key:Int))=es.flatMap aG:=by
  apply List.ext_getElem?;intro k;rw[List.getElem?_set];split
  ·next hk=>subst hk;rw[if_pos (by rw[gV];omega),g0]
  ·rfl
 have hh:((es.flatMap aG).set (3*i+1) (.int .u64 (v:Int))).set (3*i+2) (.int .u64 (es[i].hash:Int))=(es.flatMap aG).set (3*i+1) (.int .u64 (v:Int)):=by
  apply List.ext_getElem?;intro k;rw[List.getElem?_set];split
  ·next hk=>subst hk;rw[if_pos (by rw[List.length_set,gV];omega),List.getElem?_set_ne (by omega),g2]
  ·rfl
 dsimp only at e1;rw[hk,hh]at e1;rw[e1]at this;rw[←h.len];rw[show pre.length+1+i*3+1=pre.length+(3*i+1+1) by omega];exact this
theorem cK.Yo (h:cK w gb t pre post go l es)(i b:Nat)(hb:b<256):cK (w.setCell ⟨gb,go,none⟩ (.int .u64 ((w8 (l.set i b):Nat):Int))) gb t pre post go (l.set i b) es:=by
 refine⟨h.len,by rw[List.length_set];exact h.l8,fun x hx=> ?_,h.e8, ?_⟩
 ·rcases List.mem_or_eq_of_mem_set hx with hx|rfl
  ·exact h.bytes x hx
  ·exact hb
 ·have:=h.blk.ak (go+0) (.int .u64 ((w8 (l.set i b):Nat):Int));rw[←h.len,set_mid _ _ _ _ _ (by simp[fP])]at this;rw[←h.len];exact this
theorem cK.JB (h:cK w gb t pre post go l es)(i:Nat)(hi:i<8)(e:av):cK (((w.setCell ⟨gb,go+1+i*3,none⟩ (.int .u64 (e.key:Int))).setCell ⟨gb,go+1+i*3+1,none⟩ (.int .u64 (e.val:Int))).setCell ⟨gb,go+1+i*3+2,none⟩ (.int .u64 (e.hash:Int))) gb t pre post go l (es.set i e):=by
 have h8:i<es.length:=by have:=h.e8;omega
 refine⟨h.len,h.l8,h.bytes,by rw[List.length_set];exact h.e8, ?_⟩;have:=((h.blk.ak (go+(3*i+1)) (.int .u64 (e.key:Int))).ak (go+(3*i+1+1)) (.int .u64 (e.val:Int))).ak (go+(3*i+2+1)) (.int .u64 (e.hash:Int));rw[←h.len,set_mid _ _ _ _ _ (by rw[fP,List.length_cons,gV];omega),set_mid _ _ _ _ _ (by rw[List.length_set,fP,List.length_cons,gV];omega),set_mid _ _ _ _ _ (by rw[List.length_set,List.length_set,fP,List.length_cons,gV];omega)]at this;rw[fP,List.set_cons_succ,List.set_cons_succ,List.set_cons_succ,NC es i h8 e]at this;rw[←h.len];rw[show pre.length+1+i*3=pre.length+(3*i+1) by omega,show pre.length+(3*i+1)+1=pre.length+(3*i+1+1) by omega,show pre.length+(3*i+1)+2=pre.length+(3*i+2+1) by omega];exact this
end
theorem oW (gb:Nat)(t:TypeId)(pre post:List Value)(go:Nat)(l:List Nat)(es:List av)(i:Nat)(hi:i<8)(must:Bool)(w:World)(h:cK w gb t pre post go l es)(hm:decide (l.getD i 0<128)=must):
  Calls Tryz.prog 188 #[bC ⟨gb,go,none⟩,.int .i64 (i:Int),.bool must] w fun e w'=>e= .returned .nilIface∧Below w.heap.size w w':=by
 have HG:=qd (Gd l h.bytes i hi);have hw:=(h.alloc (.cells #[.pointer (some ⟨gb,go,none⟩)] 195)).word
 have h1:¬(i:Int)<0:=by omega
 have h2:¬(i:Int)≥8:=by omega
 unfold bC;clear h;generalize l.getD i 0=b at*
 have hc:decide ((b:Int)<128)=must:=by rw[←hm];exact decide_eq_decide.2 (by omega)
 clear hm;cases must
 case' true=>
  have hc':(b:Int)<128:=by simpa using hc
 case' false=>
  have hc':¬(b:Int)<128:=by simpa using hc
 all_goals
  clear hc;go_in;go_wp2_with (first|(refine(HG.out _).mono ?_;rintro e w1 ⟨rfl,rfl⟩));go_ret;exact⟨rfl,(Below.refl _ _).alloc (Nat.le_refl _) _⟩
theorem ND (gb:Nat)(t:TypeId)(pre post:List Value)(go:Nat)(l:List Nat)(es:List av)(i:Nat)(hi:i<8)(w:World)(h:cK w gb t pre post go l es)(hm:¬l.getD i 0<128)(E:Nat→Addr)(hE:gN E w 5):
  Calls Tryz.prog 188 #[bC ⟨gb,go,none⟩,.int .i64 (i:Int),.bool true] w fun e w'=>e= .returned (.iface 325 (.pointer (some (E 5))))∧Below w.heap.size w w':=by
 have HG:=qd (Gd l h.bytes i hi);have hw:=(h.alloc (.cells #[.pointer (some ⟨gb,go,none⟩)] 195)).word;have hE':(w.alloc (.cells #[.pointer (some ⟨gb,go,none⟩)] 195)).cell? ⟨3,0,none⟩=some (.iface 325 (.pointer (some (E 5)))):=hE.alloc _
 have h1:¬(i:Int)<0:=by omega
 have h2:¬(i:Int)≥8:=by omega
 unfold bC;clear h hE;generalize l.getD i 0=b at*
 have hc':¬(b:Int)<128:=by omega
 have hd':decide ((b:Int)<128)=false:=decide_eq_false hc';clear hm;go_in;go_wp2_with (first|(refine(HG.out _).mono ?_;rintro e w1 ⟨rfl,rfl⟩));go_ret;exact⟨rfl,(Below.refl _ _).alloc (Nat.le_refl _) _⟩
theorem NG (gb:Nat)(t:TypeId)(pre post:List Value)(go:Nat)(l:List Nat)(es:List av)(i:Nat)(hi:i<8)(w:World)(h:cK w gb t pre post go l es)(hm:l.getD i 0<128):
  Calls Tryz.prog 140 #[bC ⟨gb,go,none⟩,.int .i64 (i:Int)] w fun e w'=>e= .returned (.tuple #[aR (es.getD i ⟨0,0,0⟩),.bool true])∧Below w.heap.size w w':=by
 have hB:=((Below.refl w.heap.size w).alloc (Nat.le_refl _) (.cells #[.pointer (some ⟨gb,go,none⟩)] 195)).alloc (by simp) (.cells #[.int .u64 0,.int .u64 0,.int .u64 0] 76);have hV:=(aj.new w 195 #[.pointer (some ⟨gb,go,none⟩)]).alloc (.cells #[.int .u64 0,.int .u64 0,.int .u64 0] 76);have hD:=aj.new (w.alloc (.cells #[.pointer (some ⟨gb,go,none⟩)] 195)) 76 #[.int .u64 0,.int .u64 0,.int .u64 0];rw[World.size_alloc]at hD;obtain⟨W,hW⟩:∃W,W=(w.alloc (.cells #[.pointer (some ⟨gb,go,none⟩)] 195)).alloc (.cells #[.int .u64 0,.int .u64 0,.int .u64 0] 76):=⟨_,rfl⟩;rw[←hW]at hB hD hV;have hG:=h.below hB;have HF:=qd (oW gb t pre post go l es i hi true W hG (decide_eq_true hm));have HW:=qd hW;have Dg:i<8:=hi;have e0:=hG.at_ i 0 hi (by omega);rw[Nat.add_zero]at e0;have e1:=hG.at_ i 1 hi (by omega);have e2:=hG.at_ i 2 hi (by omega);unfold bC at HF⊢;unfold aR;clear hW hG h hi;generalize es.getD i ⟨0,0,0⟩=x at*;simp only[aG,List.getElem?_cons_zero,List.getElem?_cons_succ]at e0 e1 e2;go_in;go_wp2_with fail;rw[←HW.out];have v0:=hV.cell 0;simp only[List.getElem?_toArray,List.getElem?_cons_zero]at v0;go_wp2_with fail;refine(HF.out).mono ?_;rintro e w1 ⟨rfl,hb⟩;replace v0:=aA hb v0;replace e0:=aA hb e0;replace e1:=aA hb e1;replace e2:=aA hb e2;have hD1:=hD.below hb hD.lt;obtain⟨f0,f1,f2⟩:=hD1.f3;obtain⟨d0,d1,d2⟩:=hD1.c3;have hB1:=qd (bX hb hB);clear hb hB hD hV;go_wp2
 refine bodyPost_ret (v:= .tuple #[.agg #[.int .u64 (x.key:Int),.int .u64 (x.val:Int),.int .u64 (x.hash:Int)],.bool true]) ?_ rfl ⟨rfl, ?_⟩
 ·simp[results,Tryz.results140,go_sem,d0,d1,d2]
 ·repeat (with_reducible first|exact hB1.out|refine Below.setCell ?_ ?_ _)
  all_goals (simp;try omega)
end
end Go.Proofs.YtbfpfgfgfjhpfaaGreatDoor
