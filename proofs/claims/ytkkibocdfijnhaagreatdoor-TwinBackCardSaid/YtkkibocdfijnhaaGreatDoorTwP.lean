/- Package run: the numbers of errors; which answers are the same. No statement of the claim. -/
import Derived.Test.YtkkibocdfijnhaaGreatDoorNum
import Derived.Test.YtkkibocdfijnhaaGreatDoorCoO
import Derived.Test.YtkkibocdfijnhaaGreatDoorLaneP
import Derived.Test.YtkkibocdfijnhaaGreatDoorRmG
import Derived.BigQuiet
import Derived.Deep.Cut
import Derived.Deep.CutRange
import Derived.Deep.RegionWith
namespace Go.Proofs.YtkkibocdfijnhaaGreatDoor
set_option maxRecDepth 100000
set_option maxHeartbeats 8000000
open Go.RowKit bV tF
section
variable {E : Nat → Addr} {w : World} {e1 e2 eb j v1 v2 y1 y2 : Nat} {i1 i2 k1 k2 s1 s2 : Int} {b1 b2 : Bool}
theorem Tf (hE:eB E w){k:Nat}(hj:j≤16)(hk:k<16)(hb:aj w eb 27 #[dK E j]):
  Calls Tryz.prog 49 #[.iface 318 (.pointer (some (E (k+1)))),pQ eb] w fun y w'=>y= .returned (.bool (j==k+1))∧w=w':=by
 have c0:=hb.cell 0;simp only[List.getElem?_toArray,List.getElem?_cons_zero]at c0
 have hI:Calls Tryz.prog 14 #[dK E j,.iface 318 (.pointer (some (E (k+1))))] w fun e w'=>e= .returned (.bool (j==k+1))∧w=w':=by
  by_cases h0:j=0
  ·subst h0;exact(VW (E (k+1)) w).mono fun e w' ⟨a,b⟩=>⟨by rw[a];simp,b⟩
  ·rw[fI E (by omega)];exact P8 hE j (k+1) (by omega) hj (by omega) (by omega)
 have HI:=qd hI;clear hb hI hE;rcases lI E j with hu|⟨A,hu⟩
 all_goals
  rw[hu]at c0 HI;clear hu;go_in;go_wp2_with fail;refine HI.out.mono ?_;rintro y w1 ⟨rfl,rfl⟩;go_wp2;go_ret;exact⟨rfl,rfl⟩
theorem Za (hE:eB E w){ab:Nat}(hj:j≤16)(hb:aj w eb 27 #[dK E j])(ha:aj w ab 27 (kG E).toArray):
  Calls Tryz.prog 48 #[.slice (some ⟨ab,0,none⟩) 16 16,.func (.func 49) #[] #[pQ eb]] w fun y w'=>y= .returned (.int .i64 ((j:Int)-1))∧w=w':=by
 have HC:=qd (fun(k:Nat) (hk:k<16)=>Tf hE hj hk hb);have HA:=qd (fun(k:Nat) (hk:k<16)=>show w.cell? ⟨ab,k,none⟩=some (.iface 318 (.pointer (some (E (k+1)))))from by rw[ha.cell k,List.getElem?_toArray];exact DI E k hk);have eg:∀args w,(callFunc 49 args).run Tryz.prog w= .ok (.enter 49 args) w:=fun args w=>enters_of Tryz.func49 (by kernel_rfl) rfl args w;have HJ:=qd hj;clear hE hb ha hj;go_in;go_wp2;go_loop [4,5,8] (fun _ _ i=>∃k:Nat,k≤16∧i= .int .i64 k∧Hid (j=0∨k<j)) (fun _ _ i=>16-(intOf i).toNat)
 case atStart=>exact⟨0,by omega,rfl,qd (by omega)⟩
 case round=>
  obtain⟨k,hk,rfl,HK⟩:=hrel;by_cases hlt:k<16
  ·have hlt':(k:Int)<16:=by omega
   have hk0:(0:Int)≤(k:Int):=by omega
   have c0:=HA.out k hlt;have HF:=qd (HC.out k hlt)
   cases hq:(j==k+1)with
   |true=>
    have HQ:=qd (show j=k+1 by simpa using hq);rw[hq]at HF;clear hq;go_wp2_with (go_at_fn 49;refine HF.out.mono ?_;rintro e w1 ⟨rfl,rfl⟩);go_ret;exact⟨fQ (by have:=HQ.out;omega),rfl⟩
   |false=>
    have HQ:=qd (show j≠k+1 by simpa using hq);rw[hq]at HF;clear hq;go_wp2_with (go_at_fn 49;refine HF.out.mono ?_;rintro e w1 ⟨rfl,rfl⟩);go_round
    case rel=>exact⟨k+1,by omega,by go_num,qd (by have:=HQ.out;have:=HK.out;omega)⟩
    case measure=>simp[intOf];omega
  ·obtain rfl:k=16:=by omega
   have hlt':¬((16:Nat):Int)<16:=by decide
   go_wp2;go_ret;exact⟨fQ (by have:=HK.out;have:=HJ.out;omega),rfl⟩
theorem Iy (hE:eB E w)(hj:j≤16):
  Calls Tryz.prog 24 #[dK E j] w fun y w'=>y= .returned (nI j)∧Below w.heap.size w w':=by
 obtain⟨u,hu⟩:∃u,u=dK E j:=⟨_,rfl⟩;have HW1:=qd (show∀v,v=u→eB E (w.alloc (.cells #[v] 27))∧aj (w.alloc (.cells #[v] 27)) w.heap.size 27 #[dK E j]∧Below w.heap.size w (w.alloc (.cells #[v] 27))from fun v hv=>⟨hE.alloc _,by rw[hv,hu];exact aj.new w _ _,(Below.refl _ _).alloc (Nat.le_refl _) _⟩);rw[←hu];have HJ:=qd hj
 have hform:u= .nilIface∨∃A,u= .iface 318 (.pointer (some A)):=by rw[hu];exact lI E j
 clear hu hE hj;rcases hform with hu|⟨A,hu⟩
 all_goals
  have h1:=HW1.out _ hu.symm;subst hu;clear HW1;go_in;go_upto_region 1 with fail;refine aZ (F:=fun v=>eB E v∧aj v w.heap.size 27 #[dK E j]∧Below w.heap.size w v) h1 ?_;rintro w1 ⟨hE1,hb1,hB1⟩;obtain⟨eb,BF⟩:∃eb,eb=w.heap.size:=⟨_,rfl⟩;have HB1:=qd hB1;have tH:=qd (And.intro hE1 (show aj w1 eb 27 #[dK E j]from by rw[BF];exact hb1));rw[←BF];have h1:=hE1.cell 1 (by omega) (by omega);have h2:=hE1.cell 2 (by omega) (by omega);have h3:=hE1.cell 3 (by omega) (by omega);have h4:=hE1.cell 4 (by omega) (by omega);have h5:=hE1.cell 5 (by omega) (by omega);have h6:=hE1.cell 6 (by omega) (by omega);have h7:=hE1.cell 7 (by omega) (by omega);have h8:=hE1.cell 8 (by omega) (by omega);have h9:=hE1.cell 9 (by omega) (by omega);have h10:=hE1.cell 10 (by omega) (by omega);have h11:=hE1.cell 11 (by omega) (by omega);have h12:=hE1.cell 12 (by omega) (by omega);have Zw:=hE1.cell 13 (by omega) (by omega);have Zx:=hE1.cell 14 (by omega) (by omega);have Zy:=hE1.cell 15 (by omega) (by omega);have h16:=hE1.cell 16 (by omega) (by omega);simp only[gE]at h1 h2 h3 h4 h5 h6 h7 h8 h9 h10 h11 h12 Zw Zx Zy h16;clear hE1 hb1 hB1 BF;go_upto_region 2 with fail;refine aZ (F:=fun v=>aj v w1.heap.size 27 (kG E).toArray∧Below w1.heap.size w1 v) ⟨aj.new w1 27 (kG E).toArray,(Below.refl _ _).alloc (Nat.le_refl _) (.cells (kG E).toArray 27)⟩ ?_;rintro w2 ⟨hA2,hB2⟩;have HI:=qd (Za (tH.out.1.below hB2 (Nat.le_refl _)) HJ.out (tH.out.2.below hB2 tH.out.2.lt) hA2)
  have HB2:=qd (HB1.out.trans (hB2.mono HB1.out.size));have om:∀(fn:Fn) (first cap:Array Value) (w:World),(Instr.makeFunc fn first cap).run Tryz.prog w= .ok (.func fn first cap) w:=fun _ _ _ _=>rfl
  have hwj:IntKind.i64.wrap ((j:Int)-1+1)=(j:Int):=by have:=HJ.out;rw[IntKind.wrap_i64];omega
  have hwk:(j:Int)-1+1=(j:Int):=by omega
  have hwl:IntKind.i64.wrap (j:Int)=(j:Int):=by have:=HJ.out;rw[IntKind.wrap_i64];omega
  clear hA2 hB2 h1 h2 h3 h4 h5 h6 h7 h8 h9 h10 h11 h12 Zw Zx Zy h16 tH HB1;go_wp2_with fail;refine HI.out.mono ?_;rintro y w3 ⟨rfl,rfl⟩;go_wp2;go_ret;exact⟨rfl,HB2.out⟩
def sJ (k1 k2 i1 i2 s1 s2:Int)(b1 b2:Bool)(y1 y2 v1 v2 e1 e2:Nat):Bool:=decide (k1=k2∧i1=i2∧s1=s2∧b1=b2∧y1=y2∧v1=v2∧e1=e2)
def Iz (k1 k2 i1 i2 s1 s2:Int)(b1 b2:Bool)(y1 y2 v1 v2:Nat):Bool:=decide (k1=k2∧i1=i2∧s1=s2∧b1=b2∧y1=y2∧v1=v2)
theorem Wp:sJ k1 k2 i1 i2 s1 s2 b1 b2 y1 y2 v1 v2 e1 e2=(Iz k1 k2 i1 i2 s1 s2 b1 b2 y1 y2 v1 v2 && decide ((e1:Int)=(e2:Int))):=by
 unfold sJ Iz;rw[←Bool.decide_and];congr 1;apply propext;constructor
 ·rintro⟨a,b,c,d,e,f,g⟩;exact⟨⟨a,b,c,d,e,f⟩,by omega⟩
 ·rintro⟨⟨a,b,c,d,e,f⟩,g⟩;exact⟨a,b,c,d,e,f,by omega⟩
def Jv (u:Value)(e:Nat):Prop:=(u= .nilIface∧e=0)∨∃A,u= .iface 318 (.pointer (some A))∧e≠0
theorem F9 {u:Value}{e:Nat}(h:Jv u e):u.oneCell'=true:=by
 rcases h with⟨rfl,_⟩|⟨A,rfl,_⟩<;>rfl
theorem adF (u v:Value)(hfu:Jv u e1)(ML:Jv v e2)(hna:∀V,Below w.heap.size w V→Calls Tryz.prog 24 #[u] V fun y w'=>y= .returned (nI e1)∧Below V.heap.size V w')(hnb:∀V,Below w.heap.size w V→Calls Tryz.prog 24 #[v] V fun y w'=>y= .returned (nI e2)∧Below V.heap.size V w'):
  Calls Tryz.prog 12 #[.agg #[.int .i64 k1,.int .i64 i1,.int .i64 s1,.bool b1,nU y1,nU v1,u],.agg #[.int .i64 k2,.int .i64 i2,.int .i64 s2,.bool b2,nU y2,nU v2,v]] w fun y w'=>y= .returned (.bool (sJ k1 k2 i1 i2 s1 s2 b1 b2 y1 y2 v1 v2 e1 e2))∧Below w.heap.size w w':=by
 have HNa:=qd hna;have BM:=qd hnb;have HFu:=qd (And.intro hfu ML);have hu:=F9 hfu;have hv:=F9 ML;clear hna hnb hfu ML;go_in;go_upto_region 1 with fail;refine aZ (F:=fun V=>(aj V w.heap.size 47 #[.int .i64 k1,.int .i64 i1,.int .i64 s1,.bool b1,nU y1,nU v1,u]∧aj V (w.heap.size+1) 47 #[.int .i64 k2,.int .i64 i2,.int .i64 s2,.bool b2,nU y2,nU v2,v])∧Below w.heap.size w V) ⟨⟨(aj.new w 47 #[.int .i64 k1,.int .i64 i1,.int .i64 s1,.bool b1,nU y1,nU v1,u]).alloc _,(by have:=aj.new (w.alloc (.cells #[.int .i64 k1,.int .i64 i1,.int .i64 s1,.bool b1,nU y1,nU v1,u] 47)) 47 #[.int .i64 k2,.int .i64 i2,.int .i64 s2,.bool b2,nU y2,nU v2,v];simpa using this)⟩,((Below.refl w.heap.size w).alloc (Nat.le_refl _) _).alloc (by simp) _⟩ ?_;rintro w1 ⟨⟨hX,hY⟩,hb1⟩;have HB1:=qd hb1;obtain⟨p,hp⟩:∃p,p=w.heap.size:=⟨_,rfl⟩;obtain⟨q,hq⟩:∃q,q=w.heap.size+1:=⟨_,rfl⟩;rw[←hq]at hY⊢;rw[←hp]at hX⊢;have x0:=hX.cell 0;have x1:=hX.cell 1;have x2:=hX.cell 2;have x3:=hX.cell 3;have x4:=hX.cell 4;have x5:=hX.cell 5;have x6:=hX.cell 6;have z0:=hY.cell 0;have z1:=hY.cell 1;have z2:=hY.cell 2;have z3:=hY.cell 3;have z4:=hY.cell 4;have z5:=hY.cell 5;have z6:=hY.cell 6;simp only[gl]at x0 x1 x2 x3 x4 x5 x6 z0 z1 z2 z3 z4 z5 z6;clear hX hY hb1 hp hq;obtain⟨told,htold⟩:∃told,told=Iz k1 k2 i1 i2 s1 s2 b1 b2 y1 y2 v1 v2:=⟨_,rfl⟩;have Wq:=qd htold
 have zZ:=qd (show sJ k1 k2 i1 i2 s1 s2 b1 b2 y1 y2 v1 v2 e1 e2=(told && decide ((e1:Int)=(e2:Int)))from by rw[htold];exact Wp);clear htold
 go_cut [5]from 6 to 46 (fun v5 wx=>v5= .bool told∧wx=w1)
 case first=>
  clear zZ HNa BM HFu x6 z6;by_cases h1:k1=k2;by_cases h2:i1=i2;by_cases h3:s1=s2;by_cases h4:b1=b2;by_cases h5:y1=y2;by_cases h6:v1=v2
  all_goals
   have HE:RowKit.Hid (told=true∨told=false):=qd (by cases told<;>simp)
   try (have h5':¬(y1:Int)=(y2:Int):=fun e=>h5 (by omega))
   try (have h6':¬(v1:Int)=(v2:Int):=fun e=>h6 (by omega))
   first
    |(have HT2:=qd (show told=true from by rw[Wq.out];unfold Iz;exact decide_eq_true ⟨h1,h2,h3,h4,h5,h6⟩))
    |(have HT2:=qd (show told=false from by rw[Wq.out];unfold Iz;exact decide_eq_false (fun hh=>by obtain⟨a1,a2,a3,a4,a5,a6⟩:=hh;contradiction)))
   clear Wq HE
   try subst h1
   try subst h2
   try subst h3
   try subst h4
   try subst h5
   try subst h6
   go_wp2;go_meet
   case rel=>exact⟨by rw[HT2.out];first|done|rfl|(simp;omega),rfl⟩
 case rest=>
  obtain⟨rfl,hwx⟩:=hcut;have hwy:=hwx.symm;subst hwy;clear x0 x1 x2 x3 x4 x5 z0 z1 z2 z3 z4 z5
  cases told with
  |false=>
   have HF:=qd (show sJ k1 k2 i1 i2 s1 s2 b1 b2 y1 y2 v1 v2 e1 e2=false from by rw[zZ.out];rfl);clear zZ Wq;go_upto_region 2 with fail;go_quiet (fail);go_wp2;go_ret;exact⟨by rw[HF.out];rfl,below_drewN HB1.out _⟩
  |true=>
   have HF1:=qd (show sJ k1 k2 i1 i2 s1 s2 b1 b2 y1 y2 v1 v2 e1 e2=decide ((e1:Int)=(e2:Int))from by rw[zZ.out];rfl);clear zZ Wq;go_upto_region 2 with fail;have hfu:=HFu.out;clear HFu;rcases hfu with⟨⟨rfl,rfl⟩|⟨A1,rfl,he1⟩,⟨rfl,rfl⟩|⟨A2,rfl,he2⟩⟩
   focus
    have HF:=qd (show sJ k1 k2 i1 i2 s1 s2 b1 b2 y1 y2 v1 v2 0 0=true from by rw[HF1.out];simp);refine rT (fun(w':World)=>w'.cell? ⟨p,6,none⟩=some (.nilIface)∧w'.cell? ⟨q,6,none⟩=some (.nilIface)) [] ?_;have hHeld:=(⟨x6,z6⟩:_∧_);refine vW 0 rfl ?_;refine vW 1 rfl ?_;refine vW 2 rfl ?_;refine vT 3 rfl ?_;refine vW 4 rfl ?_;refine vW 5 rfl ?_;refine vT 6 rfl ?_;refine vW 7 rfl ?_;refine vW 8 rfl ?_;refine vW 9 rfl ?_;refine vW 10 rfl ?_;refine vW 11 rfl ?_;refine vT 12 rfl ?_;refine vW 14 rfl ?_;refine vT 15 rfl ?_;refine nT 13 rfl fun K hK=> ?_;go_simp;refine(HNa.out _ (by first|exact HB1.out|exact HB1.out.drew)).mono ?_;rintro y V1 ⟨rfl,hb2⟩;replace x6:=aA hb2 x6;replace z6:=aA hb2 z6;replace HB1:=qd (show Below w.heap.size w V1 from by first|exact HB1.out.trans (hb2.mono HB1.out.size)|exact HB1.out.drew.trans (hb2.mono HB1.out.drew.size));clear hb2;go_wp2_with fail;have hHeld:=(⟨x6,z6⟩:_∧_);refine kO hK ?_;clear hK K;refine nT 16 rfl fun K hK=> ?_;go_simp;refine(HNa.out _ (by first|exact HB1.out|exact HB1.out.drew)).mono ?_
   rotate_left
   ·have HF:=qd (show sJ k1 k2 i1 i2 s1 s2 b1 b2 y1 y2 v1 v2 0 e2=false from by rw[HF1.out];simp;omega);go_quiet (fail);go_wp2;go_ret;exact⟨by rw[HF.out];rfl,below_drewN HB1.out _⟩
   ·have HF:=qd (show sJ k1 k2 i1 i2 s1 s2 b1 b2 y1 y2 v1 v2 e1 0=false from by rw[HF1.out];simp;omega);go_quiet (fail);go_wp2;go_ret;exact⟨by rw[HF.out];rfl,below_drewN HB1.out _⟩
   focus
    have HF:=HF1;clear he1 he2;refine rT (fun(w':World)=>w'.cell? ⟨p,6,none⟩=some (.iface 318 (.pointer (some A1)))∧w'.cell? ⟨q,6,none⟩=some (.iface 318 (.pointer (some A2)))) [] ?_;have hHeld:=(⟨x6,z6⟩:_∧_);refine vW 0 rfl ?_;refine vW 1 rfl ?_;refine vW 2 rfl ?_;refine vT 3 rfl ?_;refine vW 4 rfl ?_;refine vW 5 rfl ?_;refine vT 6 rfl ?_;refine vW 7 rfl ?_;refine vW 8 rfl ?_;refine vW 9 rfl ?_;refine vW 10 rfl ?_;refine vW 11 rfl ?_;refine vT 12 rfl ?_;refine vW 14 rfl ?_;refine vT 15 rfl ?_;refine nT 13 rfl fun K hK=> ?_;go_simp;refine(HNa.out _ (by first|exact HB1.out|exact HB1.out.drew)).mono ?_;rintro y V1 ⟨rfl,hb2⟩;replace x6:=aA hb2 x6;replace z6:=aA hb2 z6;replace HB1:=qd (show Below w.heap.size w V1 from by first|exact HB1.out.trans (hb2.mono HB1.out.size)|exact HB1.out.drew.trans (hb2.mono HB1.out.drew.size));clear hb2;go_wp2_with fail;have hHeld:=(⟨x6,z6⟩:_∧_);refine kO hK ?_;clear hK K;refine nT 16 rfl fun K hK=> ?_;go_simp;refine(BM.out _ (by first|exact HB1.out|exact HB1.out.drew)).mono ?_
   all_goals
    rintro y V1 ⟨rfl,hb2⟩;replace x6:=aA hb2 x6;replace z6:=aA hb2 z6;replace HB1:=qd (show Below w.heap.size w V1 from by first|exact HB1.out.trans (hb2.mono HB1.out.size)|exact HB1.out.drew.trans (hb2.mono HB1.out.drew.size));clear hb2;go_wp2_with fail;have hHeld:=(⟨x6,z6⟩:_∧_);refine kO hK ?_;clear hK K;refine vW 17 rfl ?_;refine vW 18 rfl ?_;refine vW 19 rfl ?_;refine aU (by kernel_rfl) ?_ _;go_wp2;go_ret;exact⟨by rw[HF.out];first|rfl|simp,by first|exact HB1.out|exact HB1.out.drew⟩
theorem IB (E:Nat→Addr)(e:Nat):Jv (dK E e) e:=by
 by_cases h:e=0
 ·exact .inl ⟨by rw[h];rfl,h⟩
 ·exact .inr ⟨E e,fI E (by omega),h⟩
theorem Zb (a b:mh):sJ a.kind b.kind a.iter b.iter a.state b.state a.is b.is a.key b.key a.val b.val a.err b.err=decide (a=b):=by
 unfold sJ;congr 1;apply propext;cases a;cases b;simp
theorem Zc (hE:eB E w)(a b:mh)(ha:a.err≤16)(hb:b.err≤16):
  Calls Tryz.prog 12 #[oh E a,oh E b] w fun y w'=>y= .returned (.bool (decide (a=b)))∧Below w.heap.size w w':=by
 rw[←Zb a b];exact adF (dK E a.err) (dK E b.err) (IB E a.err) (IB E b.err) (fun V hV=>Iy (hE.below hV (Nat.le_refl _)) ha) (fun V hV=>Iy (hE.below hV (Nat.le_refl _)) hb)
end
section
variable {I I' M M' : Nat} {s : St} {o : aV} {a : mh}
def zq (M I:Nat):St→List aV→List mh
 |_,[]=> []
 |s,o::l=>mZ M I s o::zq M I (oo M I s o) l
theorem Zd (M I:Nat)(s:St)(o:aV):(mZ M I s o).err≤16:=by
 unfold mZ;simp only
 repeat' split
 all_goals decide
theorem jQ.kind (h:jQ M I s o a):a.kind=o.kind:=by
 unfold jQ at h;split at h
 ·next hk=>rw[h.1,hk]
 ·rw[h];rfl
theorem jQ.err (h:jQ M I s o a):a.err=(mZ M I s o).err:=by
 unfold jQ at h;split at h
 ·exact h.2.2.2.1
 ·rw[h]
theorem jQ.det (h:jQ M I s o a)(hk:a.kind≠7):a=mZ M I s o:=by
 have:=h.kind;unfold jQ at h;rw[if_neg (by rw[←this];exact hk)]at h;exact h
theorem jI.at:∀{s:St} {l:List aV} {us:List mh} {i:Nat} {a:mh},jI M I s l us→us[i]?=some a→∃d,(zq M I s l)[i]?=some d∧a.kind=d.kind∧a.err=d.err∧(a.kind≠7→a=d)∧a.err≤16
 |_,[],[],i,a,_,h=>by simp at h
 |s,o::l,u::us,0,a,h,e=>by
  obtain rfl:u=a:=by simpa using e
  exact⟨_,rfl,h.1.kind,h.1.err,h.1.det,by rw[h.1.err];exact Zd _ _ _ _⟩
 |s,o::l,u::us,i+1,a,h,e=>by
  obtain⟨d,h1,h2⟩:=jI.at (i:=i) (a:=a) h.2 (by simpa using e);exact⟨d,by simpa[zq]using h1,h2⟩
 |_,[],_::_,_,_,h,_=>h.elim
 |_,_::_,[],_,_,h,_=>h.elim
def nQ:List mh→List mh→Option Nat
 |a::l,b::m=>if a.kind≠7∧a≠b then some 0 else(nQ l m).map (·+1)
 |_,_=>none
theorem OZ:∀{l:List aV} {s s':St} {us vs:List mh},jI M I s l us→jI M' I' s' l vs→nQ us vs=nQ (zq M I s l) (zq M' I' s' l)
 | [],_,_,[],[],_,_=>rfl
 |o::l,s,s',u::us,v::vs,h,k=>by
  unfold zq nQ;rw[OZ h.2 k.2];have h1:=h.1.kind;have h2:=k.1.kind;by_cases hk:u.kind=7
  ·rw[if_neg (by rw[hk];simp),if_neg (by intro hh;exact hh.1 (by show o.kind=7;rw[←h1,hk]))]
  ·rw[h.1.det hk,k.1.det (by rw[h2,←h1];exact hk)]
 | [],_,_,[],_::_,_,k=>k.elim
 | [],_,_,_::_,_,h,_=>h.elim
 |_::_,_,_,[],_,h,_=>h.elim
 |_::_,_,_,_::_,[],_,k=>k.elim
theorem O0:∀{us vs:List mh} {i:Nat} {a b:mh},us[i]?=some a→vs[i]?=some b→nQ (us.take i) (vs.take i)=none→a.kind≠7→a≠b→nQ us vs=some i
 |u::us,v::vs,0,a,b,h,k,_,h1,h2=>by
  obtain rfl:u=a:=by simpa using h
  obtain rfl:v=b:=by simpa using k
  unfold nQ;rw[if_pos ⟨h1,h2⟩]
 |u::us,v::vs,i+1,a,b,h,k,e,h1,h2=>by
  simp only[List.take_succ_cons]at e;unfold nQ at e⊢;split at e
  ·cases e
  ·next hc=>
   rw[if_neg hc,O0 (i:=i) (by simpa using h) (by simpa using k) (by simpa using e) h1 h2];rfl
 | [],_,_,_,_,h,_,_,_,_=>by simp at h
 |_::_,[],_,_,_,_,k,_,_,_=>by simp at k
theorem K3:∀{us vs:List mh} {i:Nat} {a b:mh},us[i]?=some a→vs[i]?=some b→nQ (us.take i) (vs.take i)=none→¬(a.kind≠7∧a≠b)→nQ (us.take (i+1)) (vs.take (i+1))=none
 |u::us,v::vs,0,a,b,h,k,_,h1=>by
  obtain rfl:u=a:=by simpa using h
  obtain rfl:v=b:=by simpa using k
  simp only[List.take_succ_cons,List.take_zero];unfold nQ;rw[if_neg h1];rfl
 |u::us,v::vs,i+1,a,b,h,k,e,h1=>by
  simp only[List.take_succ_cons]at e⊢;unfold nQ at e⊢;split at e
  ·cases e
  ·next hc=>
   rw[if_neg hc];have:=K3 (us:=us) (vs:=vs) (i:=i) (by simpa using h) (by simpa using k) (by simpa using e) h1;rw[this];rfl
 | [],_,_,_,_,h,_,_,_=>by simp at h
 |_::_,[],_,_,_,_,k,_,_=>by simp at k
end
end Go.Proofs.YtkkibocdfijnhaaGreatDoor
