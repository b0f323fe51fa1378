/- Package run: Do. No statement of the claim. -/
import Derived.Test.YtkkibocdfijnhaaGreatDoorRunA
import Derived.Test.YtkkibocdfijnhaaGreatDoorSqM
import Derived.Test.YtkkibocdfijnhaaGreatDoorLaneP
import Derived.Maps.OwnSet
import Derived.Maps.OwnOps
namespace Go.Proofs.YtkkibocdfijnhaaGreatDoor
set_option maxRecDepth 100000
set_option maxHeartbeats 8000000
open Go.RowKit bV tF Go.Maps
section
variable {t : TypeId} {key val : Nat} {hk it : Int} {u : Value}
def noE (M:Nat)(s:St)(key:Nat):Nat:=if noRoom M (s.R key) s.n then 2 else 0
def opE (I:Nat)(s:St):Nat:=if s.ids.length<I then 0 else 7
def DF (I:Nat)(s:St):Int:=if s.ids.length<I then((s.gv+1:Nat):Int)else 0
def idE (s:St)(i:Int):Nat:=if wK s i then 0 else 6
section
variable {W0 : World} {E : Nat → Addr} {H : Nat → Nat} {K M I b : Nat} {G : List Nat} {w : World} {s : St}
theorem V7 (h:gH W0 E H K M I b G w s)(key:Nat)(h64:H key<18446744073709551616):Calls Tryz.prog 19 #[pQ b,nU key,.int .u64 (H key:Int)] w fun y w'=>y= .returned (.tuple #[.int .u64 (((s.R key).getD 0:Nat):Int),.bool (s.R key).isSome])∧gI W0 E H K M I b G w w' s:=by
 obtain⟨its,h1,h2,h3⟩:=h;exact(acL h1 key h64).mono fun y w' ⟨a,b⟩=>⟨a,gI.of b h2 h3⟩
theorem acZ (h:gH W0 E H K M I b G w s)(e:ay)(he:jK H e):Calls Tryz.prog 30 #[pQ b,nU e.key,nU e.val,nU e.hash] w fun y w'=>y= .returned (dK E (noE M s e.key))∧gI W0 E H K M I b G w w' {s with R:=FW M s.R s.n e.key e.val,n:=FX M (s.R e.key) s.n}:=by
 obtain⟨its,h1,h2,h3⟩:=h;exact(acK h1 e he).mono fun y w' ⟨a,b⟩=>⟨a,gI.of (s:={s with R:=FW M s.R s.n e.key e.val,n:=FX M (s.R e.key) s.n}) b h2 h3⟩
theorem V8 (h:gH W0 E H K M I b G w s)(e:ay)(he:jK H e):Calls Tryz.prog 31 #[pQ b,nU e.key,nU e.hash] w fun y w'=>y= .returned (.bool (s.R e.key).isSome)∧gI W0 E H K M I b G w w' {s with R:=FY s.R e.key,n:=OL (s.R e.key) s.n}:=by
 obtain⟨its,h1,h2,h3⟩:=h;exact(VR h1 e he).mono fun y w' ⟨a,b⟩=>⟨a,gI.of (s:={s with R:=FY s.R e.key,n:=OL (s.R e.key) s.n}) b h2 h3⟩
theorem ac0 (h:gH W0 E H K M I b G w s):Calls Tryz.prog 32 #[pQ b] w fun y w'=>y= .returned (nI s.n)∧gI W0 E H K M I b G w w' s:=by
 have h':=h;obtain⟨its,h1,h2,h3⟩:=h;refine(acM h1).mono ?_;rintro y w' ⟨a,rfl⟩;exact⟨a,h'.to (Below.refl _ _)⟩
theorem Y2 (h:gH W0 E H K M I b G w s)(h7:bX E W0 7)(hg:s.gv≤100000):Calls Tryz.prog 34 #[pQ b] w fun y w'=>y= .returned (.tuple #[.int .i64 (DF I s),dK E (opE I s)])∧gI W0 E H K M I b G w w' (oo M I s ⟨6,0,0,0,0⟩):=by
 refine(abq h h7 hg).mono fun y w' ⟨a,b⟩=>⟨a, ?_⟩;unfold oo;exact b
theorem V9 (h:gH W0 E H K M I b G w s)(h6:bX E W0 6)(i:Int):Calls Tryz.prog 36 #[pQ b,.int .i64 i] w fun y w'=>y= .returned (dK E (idE s i))∧gI W0 E H K M I b G w w' (oo M I s ⟨8,0,0,0,i⟩):=YZ h h6 i
end
theorem cells7 {w:World}{b:Nat}{v0 v1 v2 v3 v4 v5 v6:Value}(h:aj w b t #[v0,v1,v2,v3,v4,v5,v6]):w.cell? ⟨b,0,none⟩=some v0∧w.cell? ⟨b,1,none⟩=some v1∧w.cell? ⟨b,2,none⟩=some v2∧w.cell? ⟨b,3,none⟩=some v3∧w.cell? ⟨b,4,none⟩=some v4∧w.cell? ⟨b,5,none⟩=some v5∧w.cell? ⟨b,6,none⟩=some v6:=⟨h.cell 0,h.cell 1,h.cell 2,h.cell 3,h.cell 4,h.cell 5,h.cell 6⟩
theorem frozen7 {w:World}{b:Nat}{cs:Array Value}(h:aj w b t cs):w.frozen? ⟨b,0,none⟩=false∧w.frozen? ⟨b,1,none⟩=false∧w.frozen? ⟨b,2,none⟩=false∧w.frozen? ⟨b,3,none⟩=false∧w.frozen? ⟨b,4,none⟩=false∧w.frozen? ⟨b,5,none⟩=false∧w.frozen? ⟨b,6,none⟩=false:=⟨h.frozen 0,h.frozen 1,h.frozen 2,h.frozen 3,h.frozen 4,h.frozen 5,h.frozen 6⟩
def DoP (W0:World)(E:Nat→Addr)(H:Nat→Nat)(K M I b:Nat)(G:List Nat)(w:World)(s:St)(o:aV)(y:Ending)(w':World):Prop:=∃a,y= .returned (.tuple #[oh E a,.nilIface])∧jQ M I s o a∧gI W0 E H K M I b G w w' (oo M I s o)
structure HGp (G:List Nat)(W0 w:World):Prop where
 lt:∀q∈G,q<w.heap.size
 far:∀q,w.heap.size≤q→q∉G
 base:W0.heap.size≤w.heap.size
theorem Y3 {E:Nat→Addr}{M I:Nat}{s:St}(hu:dK E (noE M s key)=u):Ending.returned (.tuple #[.agg #[.int .i64 2,.int .i64 0,.int .i64 0,.bool false,.int .u64 0,.int .u64 0,u],.nilIface])= .returned (.tuple #[oh E (mZ M I s ⟨2,(key:Int),(val:Int),hk,it⟩),.nilIface]):=by
 rw[←hu];unfold oh mZ;simp[noE]
theorem Y4 {E:Nat→Addr}{M I:Nat}{s:St}(hu:dK E (opE I s)=u):Ending.returned (.tuple #[.agg #[.int .i64 6,.int .i64 (DF I s),.int .i64 0,.bool false,.int .u64 0,.int .u64 0,u],.nilIface])= .returned (.tuple #[oh E (mZ M I s ⟨6,(key:Int),(val:Int),hk,it⟩),.nilIface]):=by
 rw[←hu];unfold oh mZ;simp[opE,DF]
theorem Y5 {E:Nat→Addr}{M I:Nat}{s:St}(hu:dK E (idE s it)=u):Ending.returned (.tuple #[.agg #[.int .i64 8,.int .i64 0,.int .i64 0,.bool false,.int .u64 0,.int .u64 0,u],.nilIface])= .returned (.tuple #[oh E (mZ M I s ⟨8,(key:Int),(val:Int),hk,it⟩),.nilIface]):=by
 rw[←hu];unfold oh mZ;simp[idE]
theorem Wd {W0:World}{E:Nat→Addr}{H:Nat→Nat}{K M I b:Nat}{G:List Nat}{w:World}{s:St}(h:gH W0 E H K M I b G w s)(o:aV)(hr:jZ o=true)(hw:Dz o)(hH:eG o.kind=true→o.hash=(H o.key.toNat:Int))(ac1:∀k,H k<18446744073709551616)(hgv:s.gv≤100000)(hMI:1≤M∧1≤I)(h6:bX E W0 6)(h7:bX E W0 7):
  Calls Tryz.prog 16 #[pQ b,BP o] w (DoP W0 E H K M I b G w s o):=by
 have KY:∀V,Calls Tryz.prog 29 #[BP o] V fun y w'=>y= .returned (.bool true)∧Below V.heap.size V w':=fun V=>(DC o V).mono fun y w' ⟨a,e⟩=>⟨by rw[a,hr],e▸(Below.refl _ _).alloc (Nat.le_refl _) _⟩;have NU:=abm (PO hr);obtain⟨kd,ac2,ac3,Bn,it⟩:=o;obtain⟨_,_,hk0,hk1,hv0,hv1,_,_,_,_⟩:=hw;simp only at hk0 hk1 hv0 hv1 NU hH;obtain⟨key,rfl⟩:∃key:Nat,ac2=(key:Int):=⟨ac2.toNat,by omega⟩;obtain⟨val,rfl⟩:∃val:Nat,ac3=(val:Int):=⟨ac3.toNat,by omega⟩;rw[Int.toNat_natCast]at hH;unfold BP at KY⊢;simp only at KY⊢;have HRt:=qd KY;have HD:=qd (fun V (hb:Below w.heap.size w V)=>h.below hb);have HK:=qd (ac1 key);have HV:=qd (show key<18446744073709551616∧val<18446744073709551616 by omega);have HM:=qd hMI;have H6:=qd h6;have H7:=qd (And.intro h7 hgv);have HG:=qd (show HGp G W0 w from⟨fun q hq=>(h.fM q hq).1,fun q hq hg=>Nat.lt_irrefl _ (Nat.lt_of_lt_of_le (h.fM q hg).1 hq),h.env.size⟩);have HH:=qd hH;have Nf:=qd (show s.n≤192 from Nat.le_trans h.least.1 h.least.2);have HKd:=qd NU;clear h hr hk0 hk1 hv0 hv1 hH ac1 hgv hMI h6 h7 KY NU;go_in;go_upto_region 1 with fail
 refine aZ (F:=fun v=>(aj v w.heap.size 40 #[.int .i64 kd,nU key,nU val,.int .u64 Bn,.int .i64 it]∧aj v (w.heap.size+1) 47 ng)∧Below w.heap.size w v) ⟨⟨(aj.new w 40 #[.int .i64 kd,nU key,nU val,.int .u64 Bn,.int .i64 it]).alloc _,(by have:=aj.new (w.alloc (.cells #[.int .i64 kd,nU key,nU val,.int .u64 Bn,.int .i64 it] 40)) 47 ng;unfold ng at this⊢;simpa using this)⟩,((Below.refl w.heap.size w).alloc (Nat.le_refl _) _).alloc (by simp) _⟩ ?_;rintro w1 ⟨⟨hX1,sO⟩,hb1⟩;have tH:=qd hX1;have HR1:=qd sO;have HB1:=qd hb1;have ac4:=qd (HRt.out w1);obtain⟨xb,hxb⟩:∃xb,xb=w.heap.size:=⟨_,rfl⟩;obtain⟨rb,hrb⟩:∃rb,rb=w.heap.size+1:=⟨_,rfl⟩;have Wh:=qd (And.intro hxb hrb);rw[←hrb]at HR1⊢;rw[←hxb]at tH⊢;obtain⟨x0,x1,x2,x3,x4⟩:=tH.out.c5;clear hX1 sO hb1 HRt hxb hrb;go_wp2_with fail;refine ac4.out.mono ?_;rintro y w2 ⟨rfl,hb2⟩;have OX:=qd (tH.out.below hb2 tH.out.lt);have HR2:=qd (HR1.out.below hb2 HR1.out.lt);have HB2:=qd (HB1.out.trans (hb2.mono HB1.out.size));have HL2:=qd (show rb<w2.heap.size from HR2.out.lt);clear x0 x1 x2 x3 x4;have x0:=OX.out.cell 0;simp only[gl]at x0;clear hb2 ac4 tH HR1 HB1;go_upto_region 6 with fail
 refine aZ (F:=fun v=>aj v w2.heap.size 47 #[.int .i64 kd,.int .i64 0,.int .i64 0,.bool false,.int .u64 0,.int .u64 0,.nilIface]∧Below w2.heap.size w2 v) ⟨aj.new w2 47 #[.int .i64 kd,.int .i64 0,.int .i64 0,.bool false,.int .u64 0,.int .u64 0,.nilIface],(Below.refl w2.heap.size w2).alloc (Nat.le_refl _) _⟩ ?_;rintro w3 ⟨hO3,hb3⟩;obtain⟨ob,l7⟩:∃ob,ob=w2.heap.size:=⟨_,rfl⟩;rw[←l7]at hO3⊢;have ku:=qd (show(w.heap.size≤ob∧ob<w3.heap.size)∧(w.heap.size≤rb∧rb<w3.heap.size)∧ob≠rb from by have:=HL2.out;have:=hO3.lt;have:=Wh.out;have:=HB2.out.size;omega);have wh:=qd hO3;have VY:=OX.out.below hb3 OX.out.lt;have HR3:=qd (HR2.out.below hb3 HR2.out.lt);have HB3:=qd (HB2.out.trans (hb3.mono HB2.out.size));clear x0;obtain⟨x0,x1,x2,x3,x4⟩:=VY.c5;have o0:=hO3.cell 0;clear hO3 hb3 l7 VY OX HR2 HB2 HL2 Wh o0
 have hkd:kd=1∨kd=2∨kd=3∨kd=4∨kd=5∨kd=6∨kd=7∨kd=8:=by have:=HKd.out;omega
 rcases hkd with rfl|rfl|rfl|rfl|rfl|rfl|rfl|rfl
 ·obtain rfl:=HH.out rfl;have HC:=qd (V7 (HD.out _ HB3.out) key HK.out);go_wp2_with fail;refine HC.out.mono ?_;rintro y w4 ⟨rfl,hto⟩;have yj:=qd hto;have dP:=hto.mod;have HR4:=qd (HR3.out.mod dP (fun hq=>HG.out.far _ ku.out.2.1.1 hq));have hO4:=wh.out.mod dP (fun hq=>HG.out.far _ ku.out.1.1 hq);clear hto dP HC wh HR3;have g3:=hO4.frozen 3;have q3:=hO4.cell 3;have g5:=hO4.frozen 5;have q5:=hO4.cell 5;simp only[gl]at q3 q5;go_upto_region 23 with fail;refine aZ (F:=fun v=>aj v ob 47 #[.int .i64 1,.int .i64 0,.int .i64 0,.bool (s.R key).isSome,.int .u64 0,.int .u64 (((s.R key).getD 0:Nat):Int),.nilIface]∧Mod [ob] w4 v) ⟨(by simpa using((hO4.ak 5 (.int .u64 (((s.R key).getD 0:Nat):Int))).ak 3 (.bool (s.R key).isSome))),(((Mod.refl [ob] w4).sl 5 (.int .u64 (((s.R key).getD 0:Nat):Int))).sl 3 (.bool (s.R key).isSome))⟩ ?_;rintro w5 ⟨bH,dh⟩;obtain⟨c0,c1,c2,c3,c4,c5,c6⟩:=cells7 bH;have aB:=HR4.out.mod dh (by simp only[List.mem_singleton];exact fun e=>ku.out.2.2 e.symm);unfold ng at aB;obtain⟨r0,r1,r2,r3,r4,r5,r6⟩:=cells7 aB;obtain⟨f0,f1,f2,f3,f4,f5,f6⟩:=frozen7 aB;have yD:=qd dh;clear bH dh aB HR4 hO4 g3 q3 g5 q5;go_wp2;refine bodyPost_ret (v:= .tuple #[.agg #[.int .i64 1,.int .i64 0,.int .i64 0,.bool (s.R key).isSome,.int .u64 0,.int .u64 (((s.R key).getD 0:Nat):Int),.nilIface],.nilIface]) (by simp[results,Tryz.results16,go_sem,r0,r1,r2,r3,r4,r5,r6]) rfl ?_
  refine⟨(mZ M I s ⟨1,(key:Int),(val:Int),(H key:Int),it⟩),rfl,by unfold jQ;rw[if_neg (show¬(1:Int)=7 by decide)],yj.out.own HG.out.lt HG.out.base HB3.out (S:=[ob,rb]) ?_ ?_⟩
  ·repeat refine Mod.ak ?_ (.inl (by simp)) _ _
   exact yD.out.more (by simp)
  ·intro q hq;simp only[List.mem_cons,List.not_mem_nil,or_false]at hq;rcases hq with rfl|rfl
   ·exact .inl ⟨ku.out.1.1,ku.out.1.2⟩
   ·exact .inl ⟨ku.out.2.1.1,ku.out.2.1.2⟩
 ·obtain rfl:=HH.out rfl;have HC:=qd (acZ (HD.out _ HB3.out) ⟨key,val,H key⟩ ⟨rfl,HK.out,HV.out.1,HV.out.2⟩);go_wp2_with fail;refine HC.out.mono ?_;rintro y w4 ⟨rfl,hto⟩;have yj:=qd hto;have dP:=hto.mod;have HR4:=qd (HR3.out.mod dP (fun hq=>HG.out.far _ ku.out.2.1.1 hq));have hO4:=wh.out.mod dP (fun hq=>HG.out.far _ ku.out.1.1 hq);clear hto dP HC wh HR3;rcases lI E (noE M s key)with hu|⟨A,hu⟩
  ·have HU:=qd hu;rw[hu];clear hu;have g6:=hO4.frozen 6;have q6:=hO4.cell 6;simp only[gl]at q6;go_upto_region 23 with fail;refine aZ (F:=fun v=>aj v ob 47 #[.int .i64 2,.int .i64 0,.int .i64 0,.bool false,.int .u64 0,.int .u64 0,.nilIface]∧Mod [ob] w4 v) ⟨(by simpa using(hO4.ak 6 (.nilIface))),((Mod.refl [ob] w4).sl 6 (.nilIface))⟩ ?_;rintro w5 ⟨bH,dh⟩;obtain⟨c0,c1,c2,c3,c4,c5,c6⟩:=cells7 bH;have aB:=HR4.out.mod dh (by simp only[List.mem_singleton];exact fun e=>ku.out.2.2 e.symm);unfold ng at aB;obtain⟨r0,r1,r2,r3,r4,r5,r6⟩:=cells7 aB;obtain⟨f0,f1,f2,f3,f4,f5,f6⟩:=frozen7 aB;have yD:=qd dh;clear bH dh aB HR4 hO4 g6 q6;go_wp2;refine bodyPost_ret (v:= .tuple #[.agg #[.int .i64 2,.int .i64 0,.int .i64 0,.bool false,.int .u64 0,.int .u64 0,.nilIface],.nilIface]) (by simp[results,Tryz.results16,go_sem,r0,r1,r2,r3,r4,r5,r6]) rfl ?_;refine⟨(mZ M I s ⟨2,(key:Int),(val:Int),(H key:Int),it⟩),Y3 HU.out,by unfold jQ;rw[if_neg (show¬(2:Int)=7 by decide)],yj.out.own HG.out.lt HG.out.base HB3.out (S:=[ob,rb]) ?_ ?_⟩
   ·repeat refine Mod.ak ?_ (.inl (by simp)) _ _
    exact yD.out.more (by simp)
   ·intro q hq;simp only[List.mem_cons,List.not_mem_nil,or_false]at hq;rcases hq with rfl|rfl
    ·exact .inl ⟨ku.out.1.1,ku.out.1.2⟩
    ·exact .inl ⟨ku.out.2.1.1,ku.out.2.1.2⟩
  ·have HU:=qd hu;rw[hu];clear hu;have g6:=hO4.frozen 6;have q6:=hO4.cell 6;simp only[gl]at q6;go_upto_region 23 with fail;refine aZ (F:=fun v=>aj v ob 47 #[.int .i64 2,.int .i64 0,.int .i64 0,.bool false,.int .u64 0,.int .u64 0,.iface 318 (.pointer (some A))]∧Mod [ob] w4 v) ⟨(by simpa using(hO4.ak 6 (.iface 318 (.pointer (some A))))),((Mod.refl [ob] w4).sl 6 (.iface 318 (.pointer (some A))))⟩ ?_;rintro w5 ⟨bH,dh⟩;obtain⟨c0,c1,c2,c3,c4,c5,c6⟩:=cells7 bH;have aB:=HR4.out.mod dh (by simp only[List.mem_singleton];exact fun e=>ku.out.2.2 e.symm);unfold ng at aB;obtain⟨r0,r1,r2,r3,r4,r5,r6⟩:=cells7 aB;obtain⟨f0,f1,f2,f3,f4,f5,f6⟩:=frozen7 aB;have yD:=qd dh;clear bH dh aB HR4 hO4 g6 q6;go_wp2;refine bodyPost_ret (v:= .tuple #[.agg #[.int .i64 2,.int .i64 0,.int .i64 0,.bool false,.int .u64 0,.int .u64 0,.iface 318 (.pointer (some A))],.nilIface]) (by simp[results,Tryz.results16,go_sem,r0,r1,r2,r3,r4,r5,r6]) rfl ?_;refine⟨(mZ M I s ⟨2,(key:Int),(val:Int),(H key:Int),it⟩),Y3 HU.out,by unfold jQ;rw[if_neg (show¬(2:Int)=7 by decide)],yj.out.own HG.out.lt HG.out.base HB3.out (S:=[ob,rb]) ?_ ?_⟩
   ·repeat refine Mod.ak ?_ (.inl (by simp)) _ _
    exact yD.out.more (by simp)
   ·intro q hq;simp only[List.mem_cons,List.not_mem_nil,or_false]at hq;rcases hq with rfl|rfl
    ·exact .inl ⟨ku.out.1.1,ku.out.1.2⟩
    ·exact .inl ⟨ku.out.2.1.1,ku.out.2.1.2⟩
 ·obtain rfl:=HH.out rfl;have HC:=qd (V8 (HD.out _ HB3.out) ⟨key,val,H key⟩ ⟨rfl,HK.out,HV.out.1,HV.out.2⟩);go_wp2_with fail;refine HC.out.mono ?_;rintro y w4 ⟨rfl,hto⟩;have yj:=qd hto;have dP:=hto.mod;have HR4:=qd (HR3.out.mod dP (fun hq=>HG.out.far _ ku.out.2.1.1 hq));have hO4:=wh.out.mod dP (fun hq=>HG.out.far _ ku.out.1.1 hq);clear hto dP HC wh HR3;have g3:=hO4.frozen 3;have q3:=hO4.cell 3;simp only[gl]at q3;go_upto_region 23 with fail;refine aZ (F:=fun v=>aj v ob 47 #[.int .i64 3,.int .i64 0,.int .i64 0,.bool (s.R key).isSome,.int .u64 0,.int .u64 0,.nilIface]∧Mod [ob] w4 v) ⟨(by simpa using(hO4.ak 3 (.bool (s.R key).isSome))),((Mod.refl [ob] w4).sl 3 (.bool (s.R key).isSome))⟩ ?_;rintro w5 ⟨bH,dh⟩;obtain⟨c0,c1,c2,c3,c4,c5,c6⟩:=cells7 bH;have aB:=HR4.out.mod dh (by simp only[List.mem_singleton];exact fun e=>ku.out.2.2 e.symm);unfold ng at aB;obtain⟨r0,r1,r2,r3,r4,r5,r6⟩:=cells7 aB;obtain⟨f0,f1,f2,f3,f4,f5,f6⟩:=frozen7 aB;have yD:=qd dh;clear bH dh aB HR4 hO4 g3 q3;go_wp2;refine bodyPost_ret (v:= .tuple #[.agg #[.int .i64 3,.int .i64 0,.int .i64 0,.bool (s.R key).isSome,.int .u64 0,.int .u64 0,.nilIface],.nilIface]) (by simp[results,Tryz.results16,go_sem,r0,r1,r2,r3,r4,r5,r6]) rfl ?_;refine⟨(mZ M I s ⟨3,(key:Int),(val:Int),(H key:Int),it⟩),rfl,by unfold jQ;rw[if_neg (show¬(3:Int)=7 by decide)],yj.out.own HG.out.lt HG.out.base HB3.out (S:=[ob,rb]) ?_ ?_⟩
  ·repeat refine Mod.ak ?_ (.inl (by simp)) _ _
   exact yD.out.more (by simp)
  ·intro q hq;simp only[List.mem_cons,List.not_mem_nil,or_false]at hq;rcases hq with rfl|rfl
   ·exact .inl ⟨ku.out.1.1,ku.out.1.2⟩
   ·exact .inl ⟨ku.out.2.1.1,ku.out.2.1.2⟩
 ·have hwn:IntKind.u64.wrap (s.n:Int)=(s.n:Int):=by have:=Nf.out;rw[IntKind.wrap_u64];omega
  have HC:=qd (ac0 (HD.out _ HB3.out));go_wp2_with fail;refine HC.out.mono ?_;rintro y w4 ⟨rfl,hto⟩;have yj:=qd hto;have dP:=hto.mod;have HR4:=qd (HR3.out.mod dP (fun hq=>HG.out.far _ ku.out.2.1.1 hq));have hO4:=wh.out.mod dP (fun hq=>HG.out.far _ ku.out.1.1 hq);clear hto dP HC wh HR3;have g5:=hO4.frozen 5;have q5:=hO4.cell 5;simp only[gl]at q5;go_upto_region 23 with fail;refine aZ (F:=fun v=>aj v ob 47 #[.int .i64 4,.int .i64 0,.int .i64 0,.bool false,.int .u64 0,nU s.n,.nilIface]∧Mod [ob] w4 v) ⟨(by simpa using(hO4.ak 5 (nU s.n))),((Mod.refl [ob] w4).sl 5 (nU s.n))⟩ ?_;rintro w5 ⟨bH,dh⟩;obtain⟨c0,c1,c2,c3,c4,c5,c6⟩:=cells7 bH;have aB:=HR4.out.mod dh (by simp only[List.mem_singleton];exact fun e=>ku.out.2.2 e.symm);unfold ng at aB;obtain⟨r0,r1,r2,r3,r4,r5,r6⟩:=cells7 aB;obtain⟨f0,f1,f2,f3,f4,f5,f6⟩:=frozen7 aB;have yD:=qd dh;clear bH dh aB HR4 hO4 g5 q5;go_wp2;refine bodyPost_ret (v:= .tuple #[.agg #[.int .i64 4,.int .i64 0,.int .i64 0,.bool false,.int .u64 0,nU s.n,.nilIface],.nilIface]) (by simp[results,Tryz.results16,go_sem,r0,r1,r2,r3,r4,r5,r6]) rfl ?_;refine⟨(mZ M I s ⟨4,(key:Int),(val:Int),Bn,it⟩),rfl,by unfold jQ;rw[if_neg (show¬(4:Int)=7 by decide)],yj.out.own HG.out.lt HG.out.base HB3.out (S:=[ob,rb]) ?_ ?_⟩
  ·repeat refine Mod.ak ?_ (.inl (by simp)) _ _
   exact yD.out.more (by simp)
  ·intro q hq;simp only[List.mem_cons,List.not_mem_nil,or_false]at hq;rcases hq with rfl|rfl
   ·exact .inl ⟨ku.out.1.1,ku.out.1.2⟩
   ·exact .inl ⟨ku.out.2.1.1,ku.out.2.1.2⟩
 ·have HC:=qd (Y0 (HD.out _ HB3.out) HM.out.1 HM.out.2);go_wp2_with fail;refine HC.out.mono ?_;rintro y w4 ⟨rfl,hto⟩;have yj:=qd hto;have dP:=hto.mod;have HR4:=qd (HR3.out.mod dP (fun hq=>HG.out.far _ ku.out.2.1.1 hq));have hO4:=wh.out.mod dP (fun hq=>HG.out.far _ ku.out.1.1 hq);clear hto dP HC wh HR3;go_upto_region 23 with fail;refine aZ (F:=fun v=>aj v ob 47 #[.int .i64 5,.int .i64 0,.int .i64 0,.bool false,.int .u64 0,.int .u64 0,.nilIface]∧Mod [ob] w4 v) ⟨(by simpa using hO4),(Mod.refl [ob] w4)⟩ ?_;rintro w5 ⟨bH,dh⟩;obtain⟨c0,c1,c2,c3,c4,c5,c6⟩:=cells7 bH;have aB:=HR4.out.mod dh (by simp only[List.mem_singleton];exact fun e=>ku.out.2.2 e.symm);unfold ng at aB;obtain⟨r0,r1,r2,r3,r4,r5,r6⟩:=cells7 aB;obtain⟨f0,f1,f2,f3,f4,f5,f6⟩:=frozen7 aB;have yD:=qd dh;clear bH dh aB HR4 hO4;go_wp2;refine bodyPost_ret (v:= .tuple #[.agg #[.int .i64 5,.int .i64 0,.int .i64 0,.bool false,.int .u64 0,.int .u64 0,.nilIface],.nilIface]) (by simp[results,Tryz.results16,go_sem,r0,r1,r2,r3,r4,r5,r6]) rfl ?_;refine⟨(mZ M I s ⟨5,(key:Int),(val:Int),Bn,it⟩),rfl,by unfold jQ;rw[if_neg (show¬(5:Int)=7 by decide)],yj.out.own HG.out.lt HG.out.base HB3.out (S:=[ob,rb]) ?_ ?_⟩
  ·repeat refine Mod.ak ?_ (.inl (by simp)) _ _
   exact yD.out.more (by simp)
  ·intro q hq;simp only[List.mem_cons,List.not_mem_nil,or_false]at hq;rcases hq with rfl|rfl
   ·exact .inl ⟨ku.out.1.1,ku.out.1.2⟩
   ·exact .inl ⟨ku.out.2.1.1,ku.out.2.1.2⟩
 ·have HC:=qd (Y2 (HD.out _ HB3.out) H7.out.1 H7.out.2);go_wp2_with fail;refine HC.out.mono ?_;rintro y w4 ⟨rfl,hto⟩;have yj:=qd hto;have dP:=hto.mod;have HR4:=qd (HR3.out.mod dP (fun hq=>HG.out.far _ ku.out.2.1.1 hq));have hO4:=wh.out.mod dP (fun hq=>HG.out.far _ ku.out.1.1 hq);clear hto dP HC wh HR3;rcases lI E (opE I s)with hu|⟨A,hu⟩
  ·have HU:=qd hu;rw[hu];clear hu;have g1:=hO4.frozen 1;have q1:=hO4.cell 1;have g6:=hO4.frozen 6;have q6:=hO4.cell 6;simp only[gl]at q1 q6;go_upto_region 23 with fail;refine aZ (F:=fun v=>aj v ob 47 #[.int .i64 6,.int .i64 (DF I s),.int .i64 0,.bool false,.int .u64 0,.int .u64 0,.nilIface]∧Mod [ob] w4 v) ⟨(by simpa using((hO4.ak 1 (.int .i64 (DF I s))).ak 6 (.nilIface))),(((Mod.refl [ob] w4).sl 1 (.int .i64 (DF I s))).sl 6 (.nilIface))⟩ ?_;rintro w5 ⟨bH,dh⟩;obtain⟨c0,c1,c2,c3,c4,c5,c6⟩:=cells7 bH;have aB:=HR4.out.mod dh (by simp only[List.mem_singleton];exact fun e=>ku.out.2.2 e.symm);unfold ng at aB;obtain⟨r0,r1,r2,r3,r4,r5,r6⟩:=cells7 aB;obtain⟨f0,f1,f2,f3,f4,f5,f6⟩:=frozen7 aB;have yD:=qd dh;clear bH dh aB HR4 hO4 g1 q1 g6 q6;go_wp2;refine bodyPost_ret (v:= .tuple #[.agg #[.int .i64 6,.int .i64 (DF I s),.int .i64 0,.bool false,.int .u64 0,.int .u64 0,.nilIface],.nilIface]) (by simp[results,Tryz.results16,go_sem,r0,r1,r2,r3,r4,r5,r6]) rfl ?_;refine⟨(mZ M I s ⟨6,(key:Int),(val:Int),Bn,it⟩),Y4 HU.out,by unfold jQ;rw[if_neg (show¬(6:Int)=7 by decide)],yj.out.own HG.out.lt HG.out.base HB3.out (S:=[ob,rb]) ?_ ?_⟩
   ·repeat refine Mod.ak ?_ (.inl (by simp)) _ _
    exact yD.out.more (by simp)
   ·intro q hq;simp only[List.mem_cons,List.not_mem_nil,or_false]at hq;rcases hq with rfl|rfl
    ·exact .inl ⟨ku.out.1.1,ku.out.1.2⟩
    ·exact .inl ⟨ku.out.2.1.1,ku.out.2.1.2⟩
  ·have HU:=qd hu;rw[hu];clear hu;have g1:=hO4.frozen 1;have q1:=hO4.cell 1;have g6:=hO4.frozen 6;have q6:=hO4.cell 6;simp only[gl]at q1 q6;go_upto_region 23 with fail;refine aZ (F:=fun v=>aj v ob 47 #[.int .i64 6,.int .i64 (DF I s),.int .i64 0,.bool false,.int .u64 0,.int .u64 0,.iface 318 (.pointer (some A))]∧Mod [ob] w4 v) ⟨(by simpa using((hO4.ak 1 (.int .i64 (DF I s))).ak 6 (.iface 318 (.pointer (some A))))),(((Mod.refl [ob] w4).sl 1 (.int .i64 (DF I s))).sl 6 (.iface 318 (.pointer (some A))))⟩ ?_;rintro w5 ⟨bH,dh⟩;obtain⟨c0,c1,c2,c3,c4,c5,c6⟩:=cells7 bH;have aB:=HR4.out.mod dh (by simp only[List.mem_singleton];exact fun e=>ku.out.2.2 e.symm);unfold ng at aB;obtain⟨r0,r1,r2,r3,r4,r5,r6⟩:=cells7 aB;obtain⟨f0,f1,f2,f3,f4,f5,f6⟩:=frozen7 aB;have yD:=qd dh;clear bH dh aB HR4 hO4 g1 q1 g6 q6;go_wp2;refine bodyPost_ret (v:= .tuple #[.agg #[.int .i64 6,.int .i64 (DF I s),.int .i64 0,.bool false,.int .u64 0,.int .u64 0,.iface 318 (.pointer (some A))],.nilIface]) (by simp[results,Tryz.results16,go_sem,r0,r1,r2,r3,r4,r5,r6]) rfl ?_;refine⟨(mZ M I s ⟨6,(key:Int),(val:Int),Bn,it⟩),Y4 HU.out,by unfold jQ;rw[if_neg (show¬(6:Int)=7 by decide)],yj.out.own HG.out.lt HG.out.base HB3.out (S:=[ob,rb]) ?_ ?_⟩
   ·repeat refine Mod.ak ?_ (.inl (by simp)) _ _
    exact yD.out.more (by simp)
   ·intro q hq;simp only[List.mem_cons,List.not_mem_nil,or_false]at hq;rcases hq with rfl|rfl
    ·exact .inl ⟨ku.out.1.1,ku.out.1.2⟩
    ·exact .inl ⟨ku.out.2.1.1,ku.out.2.1.2⟩
 ·have HC:=qd (Y1 (HD.out _ HB3.out) H6.out it);go_wp2_with fail;refine HC.out.mono ?_;rintro y w4 ⟨a,rfl,ha,hto⟩;have yj:=qd hto;have dP:=hto.mod;have HR4:=qd (HR3.out.mod dP (fun hq=>HG.out.far _ ku.out.2.1.1 hq));have hO4:=wh.out.mod dP (fun hq=>HG.out.far _ ku.out.1.1 hq);clear hto dP HC wh HR3;have Wi:=qd ha;clear ha;unfold oh;rcases lI E a.err with hu|⟨A,hu⟩
  ·have HU:=qd hu;rw[hu];clear hu;have g0:=hO4.frozen 0;have q0:=hO4.cell 0;have g1:=hO4.frozen 1;have q1:=hO4.cell 1;have g2:=hO4.frozen 2;have q2:=hO4.cell 2;have g3:=hO4.frozen 3;have q3:=hO4.cell 3;have g4:=hO4.frozen 4;have q4:=hO4.cell 4;have g5:=hO4.frozen 5;have q5:=hO4.cell 5;have g6:=hO4.frozen 6;have q6:=hO4.cell 6;simp only[gl]at q0 q1 q2 q3 q4 q5 q6;go_upto_region 23 with fail;refine aZ (F:=fun v=>aj v ob 47 #[.int .i64 a.kind,.int .i64 a.iter,.int .i64 a.state,.bool a.is,nU a.key,nU a.val,.nilIface]∧Mod [ob] w4 v) ⟨(by simpa using(((((((hO4.ak 0 (.int .i64 a.kind)).ak 1 (.int .i64 a.iter)).ak 2 (.int .i64 a.state)).ak 3 (.bool a.is)).ak 4 (nU a.key)).ak 5 (nU a.val)).ak 6 (.nilIface))),((((((((Mod.refl [ob] w4).sl 0 (.int .i64 a.kind)).sl 1 (.int .i64 a.iter)).sl 2 (.int .i64 a.state)).sl 3 (.bool a.is)).sl 4 (nU a.key)).sl 5 (nU a.val)).sl 6 (.nilIface))⟩ ?_;rintro w5 ⟨bH,dh⟩;obtain⟨c0,c1,c2,c3,c4,c5,c6⟩:=cells7 bH;have aB:=HR4.out.mod dh (by simp only[List.mem_singleton];exact fun e=>ku.out.2.2 e.symm);unfold ng at aB;obtain⟨r0,r1,r2,r3,r4,r5,r6⟩:=cells7 aB;obtain⟨f0,f1,f2,f3,f4,f5,f6⟩:=frozen7 aB;have yD:=qd dh;clear bH dh aB HR4 hO4 g0 q0 g1 q1 g2 q2 g3 q3 g4 q4 g5 q5 g6 q6;go_wp2;refine bodyPost_ret (v:= .tuple #[.agg #[.int .i64 a.kind,.int .i64 a.iter,.int .i64 a.state,.bool a.is,nU a.key,nU a.val,.nilIface],.nilIface]) (by simp[results,Tryz.results16,go_sem,r0,r1,r2,r3,r4,r5,r6]) rfl ?_
   refine⟨⟨a.kind,a.iter,a.state,a.is,a.key,a.val,a.err⟩,by unfold oh;rw[HU.out],by unfold jQ;rw[if_pos rfl];exact⟨Wi.out.1,Wi.out.2.1,Wi.out.2.2.1,Wi.out.2.2.2.1,Wi.out.2.2.2.2⟩,yj.out.own HG.out.lt HG.out.base HB3.out (S:=[ob,rb]) ?_ ?_⟩
   ·repeat refine Mod.ak ?_ (.inl (by simp)) _ _
    exact yD.out.more (by simp)
   ·intro q hq;simp only[List.mem_cons,List.not_mem_nil,or_false]at hq;rcases hq with rfl|rfl
    ·exact .inl ⟨ku.out.1.1,ku.out.1.2⟩
    ·exact .inl ⟨ku.out.2.1.1,ku.out.2.1.2⟩
  ·have HU:=qd hu;rw[hu];clear hu;have g0:=hO4.frozen 0;have q0:=hO4.cell 0;have g1:=hO4.frozen 1;have q1:=hO4.cell 1;have g2:=hO4.frozen 2;have q2:=hO4.cell 2;have g3:=hO4.frozen 3;have q3:=hO4.cell 3;have g4:=hO4.frozen 4;have q4:=hO4.cell 4;have g5:=hO4.frozen 5;have q5:=hO4.cell 5;have g6:=hO4.frozen 6;have q6:=hO4.cell 6;simp only[gl]at q0 q1 q2 q3 q4 q5 q6;go_upto_region 23 with fail;refine aZ (F:=fun v=>aj v ob 47 #[.int .i64 a.kind,.int .i64 a.iter,.int .i64 a.state,.bool a.is,nU a.key,nU a.val,.iface 318 (.pointer (some A))]∧Mod [ob] w4 v) ⟨(by simpa using(((((((hO4.ak 0 (.int .i64 a.kind)).ak 1 (.int .i64 a.iter)).ak 2 (.int .i64 a.state)).ak 3 (.bool a.is)).ak 4 (nU a.key)).ak 5 (nU a.val)).ak 6 (.iface 318 (.pointer (some A))))),((((((((Mod.refl [ob] w4).sl 0 (.int .i64 a.kind)).sl 1 (.int .i64 a.iter)).sl 2 (.int .i64 a.state)).sl 3 (.bool a.is)).sl 4 (nU a.key)).sl 5 (nU a.val)).sl 6 (.iface 318 (.pointer (some A))))⟩ ?_;rintro w5 ⟨bH,dh⟩;obtain⟨c0,c1,c2,c3,c4,c5,c6⟩:=cells7 bH;have aB:=HR4.out.mod dh (by simp only[List.mem_singleton];exact fun e=>ku.out.2.2 e.symm);unfold ng at aB;obtain⟨r0,r1,r2,r3,r4,r5,r6⟩:=cells7 aB;obtain⟨f0,f1,f2,f3,f4,f5,f6⟩:=frozen7 aB;have yD:=qd dh;clear bH dh aB HR4 hO4 g0 q0 g1 q1 g2 q2 g3 q3 g4 q4 g5 q5 g6 q6;go_wp2
   refine bodyPost_ret (v:= .tuple #[.agg #[.int .i64 a.kind,.int .i64 a.iter,.int .i64 a.state,.bool a.is,nU a.key,nU a.val,.iface 318 (.pointer (some A))],.nilIface]) (by simp[results,Tryz.results16,go_sem,r0,r1,r2,r3,r4,r5,r6]) rfl ?_;refine⟨⟨a.kind,a.iter,a.state,a.is,a.key,a.val,a.err⟩,by unfold oh;rw[HU.out],by unfold jQ;rw[if_pos rfl];exact⟨Wi.out.1,Wi.out.2.1,Wi.out.2.2.1,Wi.out.2.2.2.1,Wi.out.2.2.2.2⟩,yj.out.own HG.out.lt HG.out.base HB3.out (S:=[ob,rb]) ?_ ?_⟩
   ·repeat refine Mod.ak ?_ (.inl (by simp)) _ _
    exact yD.out.more (by simp)
   ·intro q hq;simp only[List.mem_cons,List.not_mem_nil,or_false]at hq;rcases hq with rfl|rfl
    ·exact .inl ⟨ku.out.1.1,ku.out.1.2⟩
    ·exact .inl ⟨ku.out.2.1.1,ku.out.2.1.2⟩
 ·have HC:=qd (V9 (HD.out _ HB3.out) H6.out it);go_wp2_with fail;refine HC.out.mono ?_;rintro y w4 ⟨rfl,hto⟩;have yj:=qd hto;have dP:=hto.mod;have HR4:=qd (HR3.out.mod dP (fun hq=>HG.out.far _ ku.out.2.1.1 hq));have hO4:=wh.out.mod dP (fun hq=>HG.out.far _ ku.out.1.1 hq);clear hto dP HC wh HR3;rcases lI E (idE s it)with hu|⟨A,hu⟩
  ·have HU:=qd hu;rw[hu];clear hu;have g6:=hO4.frozen 6;have q6:=hO4.cell 6;simp only[gl]at q6;go_upto_region 23 with fail;refine aZ (F:=fun v=>aj v ob 47 #[.int .i64 8,.int .i64 0,.int .i64 0,.bool false,.int .u64 0,.int .u64 0,.nilIface]∧Mod [ob] w4 v) ⟨(by simpa using(hO4.ak 6 (.nilIface))),((Mod.refl [ob] w4).sl 6 (.nilIface))⟩ ?_;rintro w5 ⟨bH,dh⟩;obtain⟨c0,c1,c2,c3,c4,c5,c6⟩:=cells7 bH;have aB:=HR4.out.mod dh (by simp only[List.mem_singleton];exact fun e=>ku.out.2.2 e.symm);unfold ng at aB;obtain⟨r0,r1,r2,r3,r4,r5,r6⟩:=cells7 aB;obtain⟨f0,f1,f2,f3,f4,f5,f6⟩:=frozen7 aB;have yD:=qd dh;clear bH dh aB HR4 hO4 g6 q6;go_wp2;refine bodyPost_ret (v:= .tuple #[.agg #[.int .i64 8,.int .i64 0,.int .i64 0,.bool false,.int .u64 0,.int .u64 0,.nilIface],.nilIface]) (by simp[results,Tryz.results16,go_sem,r0,r1,r2,r3,r4,r5,r6]) rfl ?_;refine⟨(mZ M I s ⟨8,(key:Int),(val:Int),Bn,it⟩),Y5 HU.out,by unfold jQ;rw[if_neg (show¬(8:Int)=7 by decide)],yj.out.own HG.out.lt HG.out.base HB3.out (S:=[ob,rb]) ?_ ?_⟩
   ·repeat refine Mod.ak ?_ (.inl (by simp)) _ _
    exact yD.out.more (by simp)
   ·intro q hq;simp only[List.mem_cons,List.not_mem_nil,or_false]at hq;rcases hq with rfl|rfl
    ·exact .inl ⟨ku.out.1.1,ku.out.1.2⟩
    ·exact .inl ⟨ku.out.2.1.1,ku.out.2.1.2⟩
  ·have HU:=qd hu;rw[hu];clear hu;have g6:=hO4.frozen 6;have q6:=hO4.cell 6;simp only[gl]at q6;go_upto_region 23 with fail;refine aZ (F:=fun v=>aj v ob 47 #[.int .i64 8,.int .i64 0,.int .i64 0,.bool false,.int .u64 0,.int .u64 0,.iface 318 (.pointer (some A))]∧Mod [ob] w4 v) ⟨(by simpa using(hO4.ak 6 (.iface 318 (.pointer (some A))))),((Mod.refl [ob] w4).sl 6 (.iface 318 (.pointer (some A))))⟩ ?_;rintro w5 ⟨bH,dh⟩;obtain⟨c0,c1,c2,c3,c4,c5,c6⟩:=cells7 bH;have aB:=HR4.out.mod dh (by simp only[List.mem_singleton];exact fun e=>ku.out.2.2 e.symm);unfold ng at aB;obtain⟨r0,r1,r2,r3,r4,r5,r6⟩:=cells7 aB;obtain⟨f0,f1,f2,f3,f4,f5,f6⟩:=frozen7 aB;have yD:=qd dh;clear bH dh aB HR4 hO4 g6 q6;go_wp2;refine bodyPost_ret (v:= .tuple #[.agg #[.int .i64 8,.int .i64 0,.int .i64 0,.bool false,.int .u64 0,.int .u64 0,.iface 318 (.pointer (some A))],.nilIface]) (by simp[results,Tryz.results16,go_sem,r0,r1,r2,r3,r4,r5,r6]) rfl ?_;refine⟨(mZ M I s ⟨8,(key:Int),(val:Int),Bn,it⟩),Y5 HU.out,by unfold jQ;rw[if_neg (show¬(8:Int)=7 by decide)],yj.out.own HG.out.lt HG.out.base HB3.out (S:=[ob,rb]) ?_ ?_⟩
   ·repeat refine Mod.ak ?_ (.inl (by simp)) _ _
    exact yD.out.more (by simp)
   ·intro q hq;simp only[List.mem_cons,List.not_mem_nil,or_false]at hq;rcases hq with rfl|rfl
    ·exact .inl ⟨ku.out.1.1,ku.out.1.2⟩
    ·exact .inl ⟨ku.out.2.1.1,ku.out.2.1.2⟩
end
section
variable {ops : Array Oper} {rest : List Oper} {o : Oper} {Q : Exit → Act → World → Prop}
def gW (w:World)(P:Program)(k e:TypeId)(qk q:IntKind)(b n:Nat)(f:Int→Option Int):Prop:=
 ∃D:DataW Unit,w.ownsMap P k (plainElem P e) b n D∧∀x,(Lit.int qk x).wf=true→Maps.has D (.int qk x)=(f x).isSome∧∀v,f x=some v→D.atKey (.int qk x) (.lit (.int q 0))= .lit (.int q v)
section
variable {P : Program} {k e t : TypeId} {qk q : IntKind} {b n : Nat} {f : Int → Option Int} {w w' : World}
theorem gW.made (w:World)(P:Program)(k e:TypeId)(qk q:IntKind):gW (w.alloc (.map #[] 0)) P k e qk q w.heap.size 0 (fun _=>none):=
 ⟨_,World.ownsMap_made w P k _,fun x _=>⟨rfl,fun v hv=>by cases hv⟩⟩
theorem gW.alloc (h:gW w P k e qk q b n f)(o:Obj):gW (w.alloc o) P k e qk q b n f:=by
 obtain⟨D,h1,h2⟩:=h;exact⟨D,h1.alloc o,h2⟩
theorem gW.drewN (h:gW w P k e qk q b n f)(m:Nat):gW (w.drewN m) P k e qk q b n f:=by
 obtain⟨D,h1,h2⟩:=h;exact⟨D,h1,h2⟩
theorem gW.kept {row:Option Nat}(h:gW w P k e qk q b n f)(hg:w.grownBy w' row)(hne:some b≠row):gW w' P k e qk q b n f:=by
 obtain⟨D,h1,h2⟩:=h;exact⟨D,h1.kept hg hne,h2⟩
theorem gW.below {B:Nat}(h:gW w P k e qk q b n f)(hb:Below B w w')(hB:b<B):gW w' P k e qk q b n f:=by
 obtain⟨D,⟨es,clock,hh,r⟩,h2⟩:=h;exact⟨D,⟨es,clock,(hb.block b hB).trans hh,r⟩,h2⟩
theorem gW.lt (h:gW w P k e qk q b n f):b<w.heap.size:=by
 obtain⟨D,h1,_⟩:=h;exact h1.lt
theorem gW.congr {g:Int→Option Int}(h:gW w P k e qk q b n f)(he:∀x,f x=g x):gW w P k e qk q b n g:=by
 obtain rfl:f=g:=funext he;exact h
theorem D6 {a c:Int}(h:(DataW.lit (.int q a):DataW Unit)= .lit (.int q c)):a=c:=by
 injection h with h
 injection h
theorem uw {a:Act}(hg:o.guard=none)(m x:Operand)(hop:o.op=Op.lookup t m x true)(hk:P.underlying k=some (.int qk))(ht:P.underlying t=some (.map k e))(he:P.underlying e=some (.int q))(hz:(zeroValue e).run P w= .ok (.int q 0) w)(hm:a.eval m= .map (some b))(hown:gW w P k e qk q b n f)(xv:Int)(hx:a.eval x= .int qk xv)(hw:(Lit.int qk xv).wf=true)(hK:wpList P ops Q rest (a.put o.dst (.tuple #[.int q ((f xv).getD 0),.bool (f xv).isSome])) w):
  wpList P ops Q (o::rest) a w:=by
 obtain⟨D,h1,h2⟩:=hown;obtain⟨h3,h4⟩:=h2 xv hw;refine wpList_lookup_own_ok_int w hg m x t hop k e q (int_keyed hk) ht he hz b n D hm h1 _ _ hx (keyOf_int_mk hk hw) fun c hc _=> ?_;rw[h3]
 cases hf:f xv with
 |some v=>
  rw[h4 v hf]at hc;obtain rfl:=D6 hc;rw[hf]at hK;exact hK
 |none=>
  rw[hf]at h3;rw[atKey_of_not_has h3]at hc;obtain rfl:=D6 hc;rw[hf]at hK;exact hK
theorem uL {a:Act}(hg:o.guard=none)(m x:Operand)(hop:o.op=Op.lookup t m x false)(hk:P.underlying k=some (.int qk))(ht:P.underlying t=some (.map k e))(he:P.underlying e=some (.int q))(hz:(zeroValue e).run P w= .ok (.int q 0) w)(hm:a.eval m= .map (some b))(hown:gW w P k e qk q b n f)(xv:Int)(hx:a.eval x= .int qk xv)(hw:(Lit.int qk xv).wf=true)(hK:wpList P ops Q rest (a.put o.dst (.int q ((f xv).getD 0))) w):
  wpList P ops Q (o::rest) a w:=by
 obtain⟨D,h1,h2⟩:=hown;obtain⟨h3,h4⟩:=h2 xv hw;refine wpList_lookup_own_int w hg m x t hop k e q (int_keyed hk) ht he hz b n D hm h1 _ _ hx (keyOf_int_mk hk hw) fun c hc _=> ?_
 cases hf:f xv with
 |some v=>
  rw[h4 v hf]at hc;obtain rfl:=D6 hc;rw[hf]at hK;exact hK
 |none=>
  rw[hf]at h3;rw[atKey_of_not_has h3]at hc;obtain rfl:=D6 hc;rw[hf]at hK;exact hK
theorem oq {a:Act}(hg:o.guard=none)(m x v:Operand)(hop:o.op=Op.mapUpdate t m x v)(hk:P.underlying k=some (.int qk))(ht:P.underlying t=some (.map k e))(he:P.underlying e=some (.int q))(hm:a.eval m= .map (some b))(hown:gW w P k e qk q b n f)(hn:n<maxLen)(xv vv:Int)(hx:a.eval x= .int qk xv)(hv:a.eval v= .int q vv)(hw:(Lit.int qk xv).wf=true)(hwv:(Lit.int q vv).wf=true)(hK:∀w',gW w' P k e qk q b (n+1) (fun y=>if y=xv then some vv else f y)→w.grownBy w' (some b)→wpList P ops Q rest (a.put o.dst undef) w'):
  wpList P ops Q (o::rest) a w:=by
 obtain⟨D,h1,h2⟩:=hown;have hD:IsMap D:=h1.isMap;refine wpList_mapUpdate_own w hg m x v t hop k e (int_keyed hk) ht _ b n D hm h1 hn _ _ _ hx hv (keyOf_int_mk hk hw) _ [] (plainElem_int he hwv) fun w' h3 h4=>hK w' ⟨_,h3,fun y hy=> ?_⟩ h4;have hkl:WideAt.IsKeyLit (.int qk xv):=(int_keyed hk).key (keyOf_int_mk hk hw);by_cases hyx:y=xv
 ·subst hyx;refine⟨?_,fun u hu=> ?_⟩
  ·rw[has_put_same hD hkl];simp
  ·rw[atKey_put_same hD hkl];simp at hu;rw[hu]
 ·have hne:(Lit.int qk y)≠ .int qk xv:=fun e=>hyx (by injection e);obtain⟨h5,h6⟩:=h2 y hy;simp only[hyx,if_false];refine⟨by rw[has_put_other hne];exact h5,fun u hu=> ?_⟩;rw[atKey_put_other hne];exact h6 u hu
end
end
end Go.Proofs.YtkkibocdfijnhaaGreatDoor
