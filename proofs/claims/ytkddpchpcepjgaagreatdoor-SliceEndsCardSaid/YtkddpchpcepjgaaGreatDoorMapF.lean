/- Package run: Do. No statement of the claim. -/
import Derived.Test.YtkddpchpcepjgaaGreatDoorRunA
namespace Go.Proofs.YtkddpchpcepjgaaGreatDoor
set_option maxRecDepth 100000
set_option maxHeartbeats 8000000
open Go.RowKit cu uq Go.Maps
section
variable {t : TypeId} {key val : Nat} {hk it : Int} {u : Value}
def noE (M:Nat)(s:St)(key:Nat):Nat:=if noRoom M (s.R key) s.n then 2 else 0
def opE (I:Nat)(s:St):Nat:=if s.ids.length<I then 0 else 7
def Fa (I:Nat)(s:St):Int:=if s.ids.length<I then((s.gv+1:Nat):Int)else 0
def idE (s:St)(i:Int):Nat:=if yj s i then 0 else 6
section
variable {W0 : World} {E : Nat -> Addr} {H : Nat -> Nat} {K M I b : Nat} {G : List Nat} {w : World} {s : St}
theorem YH (h:gK W0 E H K M I b G w s)(key:Nat)(h64:H key<18446744073709551616):Calls Tryz.prog 21 #[pQ b,nU key,.int .u64 (H key:Int)] w λy w'=>y= .returned (.tuple #[.int .u64 (((s.R key).getD 0:Nat):Int),.bool (s.R key).isSome])/\gM W0 E H K M I b G w w' s:=by
 obtain⟨its,h1,h2,h3⟩:=h;exact(aeU h1 key h64).mono λy w' ⟨a,b⟩=>⟨a,gM.of b h2 h3⟩
theorem ae9 (h:gK W0 E H K M I b G w s)(e:ay)(he:kH H e):Calls Tryz.prog 39 #[pQ b,nU e.key,nU e.val,nU e.hash] w λy w'=>y= .returned (eT E (noE M s e.key))/\gM W0 E H K M I b G w w' {s with R:=CF M s.R s.n e.key e.val,n:=AJ M (s.R e.key) s.n}:=by
 obtain⟨its,h1,h2,h3⟩:=h;exact(aeT h1 e he).mono λy w' ⟨a,b⟩=>⟨a,gM.of (s:={s with R:=CF M s.R s.n e.key e.val,n:=AJ M (s.R e.key) s.n}) b h2 h3⟩
theorem YI (h:gK W0 E H K M I b G w s)(e:ay)(he:kH H e):Calls Tryz.prog 40 #[pQ b,nU e.key,nU e.hash] w λy w'=>y= .returned (.bool (s.R e.key).isSome)/\gM W0 E H K M I b G w w' {s with R:=rM s.R e.key,n:=Io (s.R e.key) s.n}:=by
 obtain⟨its,h1,h2,h3⟩:=h;exact(Yy h1 e he).mono λy w' ⟨a,b⟩=>⟨a,gM.of (s:={s with R:=rM s.R e.key,n:=Io (s.R e.key) s.n}) b h2 h3⟩
theorem afa (h:gK W0 E H K M I b G w s):Calls Tryz.prog 41 #[pQ b] w λy w'=>y= .returned (nI s.n)/\gM W0 E H K M I b G w w' s:=by
 have h':=h;obtain⟨its,h1,h2,h3⟩:=h;refine(aeV h1).mono ?_;rintro y w' ⟨a,rfl⟩;exact⟨a,h'.to (Below.refl _ _)⟩
theorem abE (h:gK W0 E H K M I b G w s)(h7:bY E W0 7)(hg:s.gv<=100000):Calls Tryz.prog 43 #[pQ b] w λy w'=>y= .returned (.tuple #[.int .i64 (Fa I s),eT E (opE I s)])/\gM W0 E H K M I b G w w' (iN M I s ⟨6,0,0,0,0⟩):=by
 refine(adD h h7 hg).mono λy w' ⟨a,b⟩=>⟨a, ?_⟩;unfold iN;exact b
theorem YJ (h:gK W0 E H K M I b G w s)(h6:bY E W0 6)(i:Int):Calls Tryz.prog 45 #[pQ b,.int .i64 i] w λy w'=>y= .returned (eT E (idE s i))/\gM W0 E H K M I b G w w' (iN M I s ⟨8,0,0,0,i⟩):=abB h h6 i
end
theorem gV {w:World}{b:Nat}{v0 v1 v2 v3 v4 v5 v6:Value}(h:aj w b t #[v0,v1,v2,v3,v4,v5,v6]):w.cell? ⟨b,0,none⟩=some v0/\w.cell? ⟨b,1,none⟩=some v1/\w.cell? ⟨b,2,none⟩=some v2/\w.cell? ⟨b,3,none⟩=some v3/\w.cell? ⟨b,4,none⟩=some v4/\w.cell? ⟨b,5,none⟩=some v5/\w.cell? ⟨b,6,none⟩=some v6:=⟨h.cell 0,h.cell 1,h.cell 2,h.cell 3,h.cell 4,h.cell 5,h.cell 6⟩
theorem l7 {w:World}{b:Nat}{cs:Array Value}(h:aj w b t cs):w.frozen? ⟨b,0,none⟩=false/\w.frozen? ⟨b,1,none⟩=false/\w.frozen? ⟨b,2,none⟩=false/\w.frozen? ⟨b,3,none⟩=false/\w.frozen? ⟨b,4,none⟩=false/\w.frozen? ⟨b,5,none⟩=false/\w.frozen? ⟨b,6,none⟩=false:=⟨h.frozen 0,h.frozen 1,h.frozen 2,h.frozen 3,h.frozen 4,h.frozen 5,h.frozen 6⟩
def DoP (W0:World)(E:Nat->Addr)(H:Nat->Nat)(K M I b:Nat)(G:List Nat)(w:World)(s:St)(o:aB)(y:Ending)(w':World):Prop:=∃a,y= .returned (.tuple #[rO E a,.nilIface])/\jm M I s o a/\gM W0 E H K M I b G w w' (iN M I s o)
structure HGp (G:List Nat)(W0 w:World):Prop where
 lt:∀q∈G,q<w.heap.size
 far:∀q,w.heap.size<=q->q∉G
 base:W0.heap.size<=w.heap.size
theorem QY {E:Nat->Addr}{M I:Nat}{s:St}(hu:eT E (noE M s key)=u):Ending.returned (.tuple #[.agg #[.int .i64 2,.int .i64 0,.int .i64 0,.bool false,.int .u64 0,.int .u64 0,u],.nilIface])= .returned (.tuple #[rO E (kr M I s ⟨2,(key:Int),(val:Int),hk,it⟩),.nilIface]):=by
 rw[<-hu];unfold rO kr;simp[noE]
theorem QZ {E:Nat->Addr}{M I:Nat}{s:St}(hu:eT E (opE I s)=u):Ending.returned (.tuple #[.agg #[.int .i64 6,.int .i64 (Fa I s),.int .i64 0,.bool false,.int .u64 0,.int .u64 0,u],.nilIface])= .returned (.tuple #[rO E (kr M I s ⟨6,(key:Int),(val:Int),hk,it⟩),.nilIface]):=by
 rw[<-hu];unfold rO kr;simp[opE,Fa]
theorem Q0 {E:Nat->Addr}{M I:Nat}{s:St}(hu:eT E (idE s it)=u):Ending.returned (.tuple #[.agg #[.int .i64 8,.int .i64 0,.int .i64 0,.bool false,.int .u64 0,.int .u64 0,u],.nilIface])= .returned (.tuple #[rO E (kr M I s ⟨8,(key:Int),(val:Int),hk,it⟩),.nilIface]):=by
 rw[<-hu];unfold rO kr;simp[idE]
theorem YK {W0:World}{E:Nat->Addr}{H:Nat->Nat}{K M I b:Nat}{G:List Nat}{w:World}{s:St}(h:gK W0 E H K M I b G w s)(o:aB)(hr:fU o=true)(hw:pz o)(hH:cZ o.kind=true->o.hash=(H o.key.toNat:Int))(afb:∀k,H k<18446744073709551616)(hgv:s.gv<=100000)(hMI:1<=M/\1<=I)(h6:bY E W0 6)(h7:bY E W0 7):
  Calls Tryz.prog 18 #[pQ b,oq o] w (DoP W0 E H K M I b G w s o):=by
 have M5:∀V,Calls Tryz.prog 38 #[oq o] V λy w'=>y= .returned (.bool true)/\Below V.heap.size V w':=λV=>(E9 o V).mono λy w' ⟨a,e⟩=>⟨by rw[a,hr],e▸(Below.refl _ _).alloc (zb _) _⟩;have Qa:=ady (R5 hr);obtain⟨kd,afc,afd,yt,it⟩:=o;obtain⟨_,_,hk0,hk1,hv0,hv1,_,_,_,_⟩:=hw;simp only at hk0 hk1 hv0 hv1 Qa hH;obtain⟨key,rfl⟩:∃key:Nat,afc=(key:Int):=⟨afc.toNat,by omega⟩;obtain⟨val,rfl⟩:∃val:Nat,afd=(val:Int):=⟨afd.toNat,by omega⟩;rw[vm]at hH;unfold oq at M5|-;simp only at M5|-;have HRt:=qd M5;have HD:=qd (λV (hb:Below w.heap.size w V)=>h.below hb);have HK:=qd (afb key);have HV:=qd (show key<18446744073709551616/\val<18446744073709551616 by omega);have HM:=qd hMI;have H6:=qd h6;have H7:=qd (And.intro h7 hgv);have HG:=qd (show HGp G W0 w from⟨λq hq=>(h.fC q hq).1,λq hq hg=>Nat.lt_irrefl _ (yp (h.fC q hg).1 hq),h.env.size⟩);have HH:=qd hH;have Ph:=qd (show s.n<=192 from qf h.least.1 h.least.2);have HKd:=qd Qa;clear h hr hk0 hk1 hv0 hv1 hH afb hgv hMI h6 h7 M5 Qa;go_in;go_upto_region 1 with fail
 refine aY (F:=λv=>(aj v w.heap.size 45 #[.int .i64 kd,nU key,nU val,.int .u64 yt,.int .i64 it]/\aj v (w.heap.size+1) 56 ou)/\Below w.heap.size w v) ⟨⟨(aj.new w 45 #[.int .i64 kd,nU key,nU val,.int .u64 yt,.int .i64 it]).alloc _,(by have:=aj.new (w.alloc (.cells #[.int .i64 kd,nU key,nU val,.int .u64 yt,.int .i64 it] 45)) 56 ou;unfold ou at this|-;simpa using this)⟩,((Below.refl w.heap.size w).alloc (zb _) _).alloc (by simp) _⟩ ?_;rintro w1 ⟨⟨hX1,uL⟩,hb1⟩;have BK:=qd hX1;have HR1:=qd uL;have HB1:=qd hb1;have afe:=qd (HRt.o w1);obtain⟨xb,hxb⟩:∃xb,xb=w.heap.size:=⟨_,rfl⟩;obtain⟨rb,hrb⟩:∃rb,rb=w.heap.size+1:=⟨_,rfl⟩;have YL:=qd (And.intro hxb hrb);rw[<-hrb]at HR1|-;rw[<-hxb]at BK|-;obtain⟨x0,x1,x2,x3,x4⟩:=BK.o.c5;clear hX1 uL hb1 HRt hxb hrb;go_wp2_with fail;refine afe.o.mono ?_;rintro y w2 ⟨rfl,hb2⟩;have QX:=qd (BK.o.below hb2 BK.o.lt);have HR2:=qd (HR1.o.below hb2 HR1.o.lt);have HB2:=qd (HB1.o.trans (hb2.mono HB1.o.size));have HL2:=qd (show rb<w2.heap.size from HR2.o.lt);clear x0 x1 x2 x3 x4;have x0:=QX.o.cell 0;simp only[gl]at x0;clear hb2 afe BK HR1 HB1;go_upto_region 6 with fail
 refine aY (F:=λv=>aj v w2.heap.size 56 #[.int .i64 kd,.int .i64 0,.int .i64 0,.bool false,.int .u64 0,.int .u64 0,.nilIface]/\Below w2.heap.size w2 v) ⟨aj.new w2 56 #[.int .i64 kd,.int .i64 0,.int .i64 0,.bool false,.int .u64 0,.int .u64 0,.nilIface],(Below.refl w2.heap.size w2).alloc (zb _) _⟩ ?_;rintro w3 ⟨hO3,hb3⟩;obtain⟨ob,nA⟩:∃ob,ob=w2.heap.size:=⟨_,rfl⟩;rw[<-nA]at hO3|-;have dN:=qd (show(w.heap.size<=ob/\ob<w3.heap.size)/\(w.heap.size<=rb/\rb<w3.heap.size)/\ob≠rb from by have:=HL2.o;have:=hO3.lt;have:=YL.o;have:=HB2.o.size;omega);have qZ:=qd hO3;have YC:=QX.o.below hb3 QX.o.lt;have HR3:=qd (HR2.o.below hb3 HR2.o.lt);have HB3:=qd (HB2.o.trans (hb3.mono HB2.o.size));clear x0;obtain⟨x0,x1,x2,x3,x4⟩:=YC.c5;have o0:=hO3.cell 0;clear hO3 hb3 nA YC QX HR2 HB2 HL2 YL o0
 have hkd:kd=1\/kd=2\/kd=3\/kd=4\/kd=5\/kd=6\/kd=7\/kd=8:=by have:=HKd.o;omega
 rcases hkd with rfl|rfl|rfl|rfl|rfl|rfl|rfl|rfl
 ·obtain rfl:=HH.o rfl;have HC:=qd (YH (HD.o _ HB3.o) key HK.o);go_wp2_with fail;refine HC.o.mono ?_;rintro y w4 ⟨rfl,hto⟩;have uy:=qd hto;have dO:=hto.mod;have HR4:=qd (HR3.o.mod dO (λhq=>HG.o.far _ dN.o.2.1.1 hq));have hO4:=qZ.o.mod dO (λhq=>HG.o.far _ dN.o.1.1 hq);clear hto dO HC qZ HR3;have g3:=hO4.frozen 3;have q3:=hO4.cell 3;have g5:=hO4.frozen 5;have q5:=hO4.cell 5;simp only[gl]at q3 q5;go_upto_region 23 with fail;refine aY (F:=λv=>aj v ob 56 #[.int .i64 1,.int .i64 0,.int .i64 0,.bool (s.R key).isSome,.int .u64 0,.int .u64 (((s.R key).getD 0:Nat):Int),.nilIface]/\Mod [ob] w4 v) ⟨(by simpa using((hO4.ak 5 (.int .u64 (((s.R key).getD 0:Nat):Int))).ak 3 (.bool (s.R key).isSome))),(((Mod.refl [ob] w4).sl 5 (.int .u64 (((s.R key).getD 0:Nat):Int))).sl 3 (.bool (s.R key).isSome))⟩ ?_;rintro w5 ⟨ku,dz⟩;obtain⟨c0,c1,c2,c3,c4,c5,c6⟩:=gV ku;have d9:=HR4.o.mod dz (by simp only[zj];exact λe=>dN.o.2.2 e.symm);unfold ou at d9;obtain⟨r0,r1,r2,r3,r4,r5,r6⟩:=gV d9;obtain⟨f0,f1,f2,f3,f4,f5,f6⟩:=l7 d9;have oV:=qd dz;clear ku dz d9 HR4 hO4 g3 q3 g5 q5;go_wp2;refine bodyPost_ret (v:= .tuple #[.agg #[.int .i64 1,.int .i64 0,.int .i64 0,.bool (s.R key).isSome,.int .u64 0,.int .u64 (((s.R key).getD 0:Nat):Int),.nilIface],.nilIface]) (by simp[results,Tryz.results18,go_sem,r0,r1,r2,r3,r4,r5,r6]) rfl ?_
  refine⟨(kr M I s ⟨1,(key:Int),(val:Int),(H key:Int),it⟩),rfl,by unfold jm;rw[if_neg (show¬(1:Int)=7 by decide)],uy.o.own HG.o.lt HG.o.base HB3.o (S:=[ob,rb]) ?_ ?_⟩
  ·repeat refine Mod.ak ?_ (.inl (by simp)) _ _
   exact oV.o.more (by simp)
  ·intro q hq;simp only[zt,Q1,XS]at hq;rcases hq with rfl|rfl
   ·exact .inl ⟨dN.o.1.1,dN.o.1.2⟩
   ·exact .inl ⟨dN.o.2.1.1,dN.o.2.1.2⟩
 ·obtain rfl:=HH.o rfl;have HC:=qd (ae9 (HD.o _ HB3.o) ⟨key,val,H key⟩ ⟨rfl,HK.o,HV.o.1,HV.o.2⟩);go_wp2_with fail;refine HC.o.mono ?_;rintro y w4 ⟨rfl,hto⟩;have uy:=qd hto;have dO:=hto.mod;have HR4:=qd (HR3.o.mod dO (λhq=>HG.o.far _ dN.o.2.1.1 hq));have hO4:=qZ.o.mod dO (λhq=>HG.o.far _ dN.o.1.1 hq);clear hto dO HC qZ HR3;rcases oI E (noE M s key)with hu|⟨A,hu⟩
  ·have HU:=qd hu;rw[hu];clear hu;have g6:=hO4.frozen 6;have q6:=hO4.cell 6;simp only[gl]at q6;go_upto_region 23 with fail;refine aY (F:=λv=>aj v ob 56 #[.int .i64 2,.int .i64 0,.int .i64 0,.bool false,.int .u64 0,.int .u64 0,.nilIface]/\Mod [ob] w4 v) ⟨(by simpa using(hO4.ak 6 (.nilIface))),((Mod.refl [ob] w4).sl 6 (.nilIface))⟩ ?_;rintro w5 ⟨ku,dz⟩;obtain⟨c0,c1,c2,c3,c4,c5,c6⟩:=gV ku;have d9:=HR4.o.mod dz (by simp only[zj];exact λe=>dN.o.2.2 e.symm);unfold ou at d9;obtain⟨r0,r1,r2,r3,r4,r5,r6⟩:=gV d9;obtain⟨f0,f1,f2,f3,f4,f5,f6⟩:=l7 d9;have oV:=qd dz;clear ku dz d9 HR4 hO4 g6 q6;go_wp2;refine bodyPost_ret (v:= .tuple #[.agg #[.int .i64 2,.int .i64 0,.int .i64 0,.bool false,.int .u64 0,.int .u64 0,.nilIface],.nilIface]) (by simp[results,Tryz.results18,go_sem,r0,r1,r2,r3,r4,r5,r6]) rfl ?_;refine⟨(kr M I s ⟨2,(key:Int),(val:Int),(H key:Int),it⟩),QY HU.o,by unfold jm;rw[if_neg (show¬(2:Int)=7 by decide)],uy.o.own HG.o.lt HG.o.base HB3.o (S:=[ob,rb]) ?_ ?_⟩
   ·repeat refine Mod.ak ?_ (.inl (by simp)) _ _
    exact oV.o.more (by simp)
   ·intro q hq;simp only[zt,Q1,XS]at hq;rcases hq with rfl|rfl
    ·exact .inl ⟨dN.o.1.1,dN.o.1.2⟩
    ·exact .inl ⟨dN.o.2.1.1,dN.o.2.1.2⟩
  ·have HU:=qd hu;rw[hu];clear hu;have g6:=hO4.frozen 6;have q6:=hO4.cell 6;simp only[gl]at q6;go_upto_region 23 with fail;refine aY (F:=λv=>aj v ob 56 #[.int .i64 2,.int .i64 0,.int .i64 0,.bool false,.int .u64 0,.int .u64 0,.iface 333 (.pointer (some A))]/\Mod [ob] w4 v) ⟨(by simpa using(hO4.ak 6 (.iface 333 (.pointer (some A))))),((Mod.refl [ob] w4).sl 6 (.iface 333 (.pointer (some A))))⟩ ?_;rintro w5 ⟨ku,dz⟩;obtain⟨c0,c1,c2,c3,c4,c5,c6⟩:=gV ku;have d9:=HR4.o.mod dz (by simp only[zj];exact λe=>dN.o.2.2 e.symm);unfold ou at d9;obtain⟨r0,r1,r2,r3,r4,r5,r6⟩:=gV d9;obtain⟨f0,f1,f2,f3,f4,f5,f6⟩:=l7 d9;have oV:=qd dz;clear ku dz d9 HR4 hO4 g6 q6;go_wp2;refine bodyPost_ret (v:= .tuple #[.agg #[.int .i64 2,.int .i64 0,.int .i64 0,.bool false,.int .u64 0,.int .u64 0,.iface 333 (.pointer (some A))],.nilIface]) (by simp[results,Tryz.results18,go_sem,r0,r1,r2,r3,r4,r5,r6]) rfl ?_;refine⟨(kr M I s ⟨2,(key:Int),(val:Int),(H key:Int),it⟩),QY HU.o,by unfold jm;rw[if_neg (show¬(2:Int)=7 by decide)],uy.o.own HG.o.lt HG.o.base HB3.o (S:=[ob,rb]) ?_ ?_⟩
   ·repeat refine Mod.ak ?_ (.inl (by simp)) _ _
    exact oV.o.more (by simp)
   ·intro q hq;simp only[zt,Q1,XS]at hq;rcases hq with rfl|rfl
    ·exact .inl ⟨dN.o.1.1,dN.o.1.2⟩
    ·exact .inl ⟨dN.o.2.1.1,dN.o.2.1.2⟩
 ·obtain rfl:=HH.o rfl;have HC:=qd (YI (HD.o _ HB3.o) ⟨key,val,H key⟩ ⟨rfl,HK.o,HV.o.1,HV.o.2⟩);go_wp2_with fail;refine HC.o.mono ?_;rintro y w4 ⟨rfl,hto⟩;have uy:=qd hto;have dO:=hto.mod;have HR4:=qd (HR3.o.mod dO (λhq=>HG.o.far _ dN.o.2.1.1 hq));have hO4:=qZ.o.mod dO (λhq=>HG.o.far _ dN.o.1.1 hq);clear hto dO HC qZ HR3;have g3:=hO4.frozen 3;have q3:=hO4.cell 3;simp only[gl]at q3;go_upto_region 23 with fail;refine aY (F:=λv=>aj v ob 56 #[.int .i64 3,.int .i64 0,.int .i64 0,.bool (s.R key).isSome,.int .u64 0,.int .u64 0,.nilIface]/\Mod [ob] w4 v) ⟨(by simpa using(hO4.ak 3 (.bool (s.R key).isSome))),((Mod.refl [ob] w4).sl 3 (.bool (s.R key).isSome))⟩ ?_;rintro w5 ⟨ku,dz⟩;obtain⟨c0,c1,c2,c3,c4,c5,c6⟩:=gV ku;have d9:=HR4.o.mod dz (by simp only[zj];exact λe=>dN.o.2.2 e.symm);unfold ou at d9;obtain⟨r0,r1,r2,r3,r4,r5,r6⟩:=gV d9;obtain⟨f0,f1,f2,f3,f4,f5,f6⟩:=l7 d9;have oV:=qd dz;clear ku dz d9 HR4 hO4 g3 q3;go_wp2;refine bodyPost_ret (v:= .tuple #[.agg #[.int .i64 3,.int .i64 0,.int .i64 0,.bool (s.R key).isSome,.int .u64 0,.int .u64 0,.nilIface],.nilIface]) (by simp[results,Tryz.results18,go_sem,r0,r1,r2,r3,r4,r5,r6]) rfl ?_;refine⟨(kr M I s ⟨3,(key:Int),(val:Int),(H key:Int),it⟩),rfl,by unfold jm;rw[if_neg (show¬(3:Int)=7 by decide)],uy.o.own HG.o.lt HG.o.base HB3.o (S:=[ob,rb]) ?_ ?_⟩
  ·repeat refine Mod.ak ?_ (.inl (by simp)) _ _
   exact oV.o.more (by simp)
  ·intro q hq;simp only[zt,Q1,XS]at hq;rcases hq with rfl|rfl
   ·exact .inl ⟨dN.o.1.1,dN.o.1.2⟩
   ·exact .inl ⟨dN.o.2.1.1,dN.o.2.1.2⟩
 ·have hwn:IntKind.u64.wrap (s.n:Int)=(s.n:Int):=by have:=Ph.o;rw[IntKind.wrap_u64];omega
  have HC:=qd (afa (HD.o _ HB3.o));go_wp2_with fail;refine HC.o.mono ?_;rintro y w4 ⟨rfl,hto⟩;have uy:=qd hto;have dO:=hto.mod;have HR4:=qd (HR3.o.mod dO (λhq=>HG.o.far _ dN.o.2.1.1 hq));have hO4:=qZ.o.mod dO (λhq=>HG.o.far _ dN.o.1.1 hq);clear hto dO HC qZ HR3;have g5:=hO4.frozen 5;have q5:=hO4.cell 5;simp only[gl]at q5;go_upto_region 23 with fail;refine aY (F:=λv=>aj v ob 56 #[.int .i64 4,.int .i64 0,.int .i64 0,.bool false,.int .u64 0,nU s.n,.nilIface]/\Mod [ob] w4 v) ⟨(by simpa using(hO4.ak 5 (nU s.n))),((Mod.refl [ob] w4).sl 5 (nU s.n))⟩ ?_;rintro w5 ⟨ku,dz⟩;obtain⟨c0,c1,c2,c3,c4,c5,c6⟩:=gV ku;have d9:=HR4.o.mod dz (by simp only[zj];exact λe=>dN.o.2.2 e.symm);unfold ou at d9;obtain⟨r0,r1,r2,r3,r4,r5,r6⟩:=gV d9;obtain⟨f0,f1,f2,f3,f4,f5,f6⟩:=l7 d9;have oV:=qd dz;clear ku dz d9 HR4 hO4 g5 q5;go_wp2;refine bodyPost_ret (v:= .tuple #[.agg #[.int .i64 4,.int .i64 0,.int .i64 0,.bool false,.int .u64 0,nU s.n,.nilIface],.nilIface]) (by simp[results,Tryz.results18,go_sem,r0,r1,r2,r3,r4,r5,r6]) rfl ?_;refine⟨(kr M I s ⟨4,(key:Int),(val:Int),yt,it⟩),rfl,by unfold jm;rw[if_neg (show¬(4:Int)=7 by decide)],uy.o.own HG.o.lt HG.o.base HB3.o (S:=[ob,rb]) ?_ ?_⟩
  ·repeat refine Mod.ak ?_ (.inl (by simp)) _ _
   exact oV.o.more (by simp)
  ·intro q hq;simp only[zt,Q1,XS]at hq;rcases hq with rfl|rfl
   ·exact .inl ⟨dN.o.1.1,dN.o.1.2⟩
   ·exact .inl ⟨dN.o.2.1.1,dN.o.2.1.2⟩
 ·have HC:=qd (abC (HD.o _ HB3.o) HM.o.1 HM.o.2);go_wp2_with fail;refine HC.o.mono ?_;rintro y w4 ⟨rfl,hto⟩;have uy:=qd hto;have dO:=hto.mod;have HR4:=qd (HR3.o.mod dO (λhq=>HG.o.far _ dN.o.2.1.1 hq));have hO4:=qZ.o.mod dO (λhq=>HG.o.far _ dN.o.1.1 hq);clear hto dO HC qZ HR3;go_upto_region 23 with fail;refine aY (F:=λv=>aj v ob 56 #[.int .i64 5,.int .i64 0,.int .i64 0,.bool false,.int .u64 0,.int .u64 0,.nilIface]/\Mod [ob] w4 v) ⟨(by simpa using hO4),(Mod.refl [ob] w4)⟩ ?_;rintro w5 ⟨ku,dz⟩;obtain⟨c0,c1,c2,c3,c4,c5,c6⟩:=gV ku;have d9:=HR4.o.mod dz (by simp only[zj];exact λe=>dN.o.2.2 e.symm);unfold ou at d9;obtain⟨r0,r1,r2,r3,r4,r5,r6⟩:=gV d9;obtain⟨f0,f1,f2,f3,f4,f5,f6⟩:=l7 d9;have oV:=qd dz;clear ku dz d9 HR4 hO4;go_wp2;refine bodyPost_ret (v:= .tuple #[.agg #[.int .i64 5,.int .i64 0,.int .i64 0,.bool false,.int .u64 0,.int .u64 0,.nilIface],.nilIface]) (by simp[results,Tryz.results18,go_sem,r0,r1,r2,r3,r4,r5,r6]) rfl ?_;refine⟨(kr M I s ⟨5,(key:Int),(val:Int),yt,it⟩),rfl,by unfold jm;rw[if_neg (show¬(5:Int)=7 by decide)],uy.o.own HG.o.lt HG.o.base HB3.o (S:=[ob,rb]) ?_ ?_⟩
  ·repeat refine Mod.ak ?_ (.inl (by simp)) _ _
   exact oV.o.more (by simp)
  ·intro q hq;simp only[zt,Q1,XS]at hq;rcases hq with rfl|rfl
   ·exact .inl ⟨dN.o.1.1,dN.o.1.2⟩
   ·exact .inl ⟨dN.o.2.1.1,dN.o.2.1.2⟩
 ·have HC:=qd (abE (HD.o _ HB3.o) H7.o.1 H7.o.2);go_wp2_with fail;refine HC.o.mono ?_;rintro y w4 ⟨rfl,hto⟩;have uy:=qd hto;have dO:=hto.mod;have HR4:=qd (HR3.o.mod dO (λhq=>HG.o.far _ dN.o.2.1.1 hq));have hO4:=qZ.o.mod dO (λhq=>HG.o.far _ dN.o.1.1 hq);clear hto dO HC qZ HR3;rcases oI E (opE I s)with hu|⟨A,hu⟩
  ·have HU:=qd hu;rw[hu];clear hu;have g1:=hO4.frozen 1;have q1:=hO4.cell 1;have g6:=hO4.frozen 6;have q6:=hO4.cell 6;simp only[gl]at q1 q6;go_upto_region 23 with fail;refine aY (F:=λv=>aj v ob 56 #[.int .i64 6,.int .i64 (Fa I s),.int .i64 0,.bool false,.int .u64 0,.int .u64 0,.nilIface]/\Mod [ob] w4 v) ⟨(by simpa using((hO4.ak 1 (.int .i64 (Fa I s))).ak 6 (.nilIface))),(((Mod.refl [ob] w4).sl 1 (.int .i64 (Fa I s))).sl 6 (.nilIface))⟩ ?_;rintro w5 ⟨ku,dz⟩;obtain⟨c0,c1,c2,c3,c4,c5,c6⟩:=gV ku;have d9:=HR4.o.mod dz (by simp only[zj];exact λe=>dN.o.2.2 e.symm);unfold ou at d9;obtain⟨r0,r1,r2,r3,r4,r5,r6⟩:=gV d9;obtain⟨f0,f1,f2,f3,f4,f5,f6⟩:=l7 d9;have oV:=qd dz;clear ku dz d9 HR4 hO4 g1 q1 g6 q6;go_wp2;refine bodyPost_ret (v:= .tuple #[.agg #[.int .i64 6,.int .i64 (Fa I s),.int .i64 0,.bool false,.int .u64 0,.int .u64 0,.nilIface],.nilIface]) (by simp[results,Tryz.results18,go_sem,r0,r1,r2,r3,r4,r5,r6]) rfl ?_;refine⟨(kr M I s ⟨6,(key:Int),(val:Int),yt,it⟩),QZ HU.o,by unfold jm;rw[if_neg (show¬(6:Int)=7 by decide)],uy.o.own HG.o.lt HG.o.base HB3.o (S:=[ob,rb]) ?_ ?_⟩
   ·repeat refine Mod.ak ?_ (.inl (by simp)) _ _
    exact oV.o.more (by simp)
   ·intro q hq;simp only[zt,Q1,XS]at hq;rcases hq with rfl|rfl
    ·exact .inl ⟨dN.o.1.1,dN.o.1.2⟩
    ·exact .inl ⟨dN.o.2.1.1,dN.o.2.1.2⟩
  ·have HU:=qd hu;rw[hu];clear hu;have g1:=hO4.frozen 1;have q1:=hO4.cell 1;have g6:=hO4.frozen 6;have q6:=hO4.cell 6;simp only[gl]at q1 q6;go_upto_region 23 with fail;refine aY (F:=λv=>aj v ob 56 #[.int .i64 6,.int .i64 (Fa I s),.int .i64 0,.bool false,.int .u64 0,.int .u64 0,.iface 333 (.pointer (some A))]/\Mod [ob] w4 v) ⟨(by simpa using((hO4.ak 1 (.int .i64 (Fa I s))).ak 6 (.iface 333 (.pointer (some A))))),(((Mod.refl [ob] w4).sl 1 (.int .i64 (Fa I s))).sl 6 (.iface 333 (.pointer (some A))))⟩ ?_;rintro w5 ⟨ku,dz⟩;obtain⟨c0,c1,c2,c3,c4,c5,c6⟩:=gV ku;have d9:=HR4.o.mod dz (by simp only[zj];exact λe=>dN.o.2.2 e.symm);unfold ou at d9;obtain⟨r0,r1,r2,r3,r4,r5,r6⟩:=gV d9;obtain⟨f0,f1,f2,f3,f4,f5,f6⟩:=l7 d9;have oV:=qd dz;clear ku dz d9 HR4 hO4 g1 q1 g6 q6;go_wp2;refine bodyPost_ret (v:= .tuple #[.agg #[.int .i64 6,.int .i64 (Fa I s),.int .i64 0,.bool false,.int .u64 0,.int .u64 0,.iface 333 (.pointer (some A))],.nilIface]) (by simp[results,Tryz.results18,go_sem,r0,r1,r2,r3,r4,r5,r6]) rfl ?_;refine⟨(kr M I s ⟨6,(key:Int),(val:Int),yt,it⟩),QZ HU.o,by unfold jm;rw[if_neg (show¬(6:Int)=7 by decide)],uy.o.own HG.o.lt HG.o.base HB3.o (S:=[ob,rb]) ?_ ?_⟩
   ·repeat refine Mod.ak ?_ (.inl (by simp)) _ _
    exact oV.o.more (by simp)
   ·intro q hq;simp only[zt,Q1,XS]at hq;rcases hq with rfl|rfl
    ·exact .inl ⟨dN.o.1.1,dN.o.1.2⟩
    ·exact .inl ⟨dN.o.2.1.1,dN.o.2.1.2⟩
 ·have HC:=qd (abD (HD.o _ HB3.o) H6.o it);go_wp2_with fail;refine HC.o.mono ?_;rintro y w4 ⟨a,rfl,ha,hto⟩;have uy:=qd hto;have dO:=hto.mod;have HR4:=qd (HR3.o.mod dO (λhq=>HG.o.far _ dN.o.2.1.1 hq));have hO4:=qZ.o.mod dO (λhq=>HG.o.far _ dN.o.1.1 hq);clear hto dO HC qZ HR3;have GJ:=qd ha;clear ha;unfold rO;rcases oI E a.err with hu|⟨A,hu⟩
  ·have HU:=qd hu;rw[hu];clear hu;have g0:=hO4.frozen 0;have q0:=hO4.cell 0;have g1:=hO4.frozen 1;have q1:=hO4.cell 1;have g2:=hO4.frozen 2;have q2:=hO4.cell 2;have g3:=hO4.frozen 3;have q3:=hO4.cell 3;have g4:=hO4.frozen 4;have q4:=hO4.cell 4;have g5:=hO4.frozen 5;have q5:=hO4.cell 5;have g6:=hO4.frozen 6;have q6:=hO4.cell 6;simp only[gl]at q0 q1 q2 q3 q4 q5 q6;go_upto_region 23 with fail;refine aY (F:=λv=>aj v ob 56 #[.int .i64 a.kind,.int .i64 a.iter,.int .i64 a.state,.bool a.is,nU a.key,nU a.val,.nilIface]/\Mod [ob] w4 v) ⟨(by simpa using(((((((hO4.ak 0 (.int .i64 a.kind)).ak 1 (.int .i64 a.iter)).ak 2 (.int .i64 a.state)).ak 3 (.bool a.is)).ak 4 (nU a.key)).ak 5 (nU a.val)).ak 6 (.nilIface))),((((((((Mod.refl [ob] w4).sl 0 (.int .i64 a.kind)).sl 1 (.int .i64 a.iter)).sl 2 (.int .i64 a.state)).sl 3 (.bool a.is)).sl 4 (nU a.key)).sl 5 (nU a.val)).sl 6 (.nilIface))⟩ ?_;rintro w5 ⟨ku,dz⟩;obtain⟨c0,c1,c2,c3,c4,c5,c6⟩:=gV ku;have d9:=HR4.o.mod dz (by simp only[zj];exact λe=>dN.o.2.2 e.symm);unfold ou at d9;obtain⟨r0,r1,r2,r3,r4,r5,r6⟩:=gV d9;obtain⟨f0,f1,f2,f3,f4,f5,f6⟩:=l7 d9;have oV:=qd dz;clear ku dz d9 HR4 hO4 g0 q0 g1 q1 g2 q2 g3 q3 g4 q4 g5 q5 g6 q6;go_wp2;refine bodyPost_ret (v:= .tuple #[.agg #[.int .i64 a.kind,.int .i64 a.iter,.int .i64 a.state,.bool a.is,nU a.key,nU a.val,.nilIface],.nilIface]) (by simp[results,Tryz.results18,go_sem,r0,r1,r2,r3,r4,r5,r6]) rfl ?_
   refine⟨⟨a.kind,a.iter,a.state,a.is,a.key,a.val,a.err⟩,by unfold rO;rw[HU.o],by unfold jm;rw[if_pos rfl];exact⟨GJ.o.1,GJ.o.2.1,GJ.o.2.2.1,GJ.o.2.2.2.1,GJ.o.2.2.2.2⟩,uy.o.own HG.o.lt HG.o.base HB3.o (S:=[ob,rb]) ?_ ?_⟩
   ·repeat refine Mod.ak ?_ (.inl (by simp)) _ _
    exact oV.o.more (by simp)
   ·intro q hq;simp only[zt,Q1,XS]at hq;rcases hq with rfl|rfl
    ·exact .inl ⟨dN.o.1.1,dN.o.1.2⟩
    ·exact .inl ⟨dN.o.2.1.1,dN.o.2.1.2⟩
  ·have HU:=qd hu;rw[hu];clear hu;have g0:=hO4.frozen 0;have q0:=hO4.cell 0;have g1:=hO4.frozen 1;have q1:=hO4.cell 1;have g2:=hO4.frozen 2;have q2:=hO4.cell 2;have g3:=hO4.frozen 3;have q3:=hO4.cell 3;have g4:=hO4.frozen 4;have q4:=hO4.cell 4;have g5:=hO4.frozen 5;have q5:=hO4.cell 5;have g6:=hO4.frozen 6;have q6:=hO4.cell 6;simp only[gl]at q0 q1 q2 q3 q4 q5 q6;go_upto_region 23 with fail;refine aY (F:=λv=>aj v ob 56 #[.int .i64 a.kind,.int .i64 a.iter,.int .i64 a.state,.bool a.is,nU a.key,nU a.val,.iface 333 (.pointer (some A))]/\Mod [ob] w4 v) ⟨(by simpa using(((((((hO4.ak 0 (.int .i64 a.kind)).ak 1 (.int .i64 a.iter)).ak 2 (.int .i64 a.state)).ak 3 (.bool a.is)).ak 4 (nU a.key)).ak 5 (nU a.val)).ak 6 (.iface 333 (.pointer (some A))))),((((((((Mod.refl [ob] w4).sl 0 (.int .i64 a.kind)).sl 1 (.int .i64 a.iter)).sl 2 (.int .i64 a.state)).sl 3 (.bool a.is)).sl 4 (nU a.key)).sl 5 (nU a.val)).sl 6 (.iface 333 (.pointer (some A))))⟩ ?_;rintro w5 ⟨ku,dz⟩;obtain⟨c0,c1,c2,c3,c4,c5,c6⟩:=gV ku;have d9:=HR4.o.mod dz (by simp only[zj];exact λe=>dN.o.2.2 e.symm);unfold ou at d9;obtain⟨r0,r1,r2,r3,r4,r5,r6⟩:=gV d9;obtain⟨f0,f1,f2,f3,f4,f5,f6⟩:=l7 d9;have oV:=qd dz;clear ku dz d9 HR4 hO4 g0 q0 g1 q1 g2 q2 g3 q3 g4 q4 g5 q5 g6 q6;go_wp2
   refine bodyPost_ret (v:= .tuple #[.agg #[.int .i64 a.kind,.int .i64 a.iter,.int .i64 a.state,.bool a.is,nU a.key,nU a.val,.iface 333 (.pointer (some A))],.nilIface]) (by simp[results,Tryz.results18,go_sem,r0,r1,r2,r3,r4,r5,r6]) rfl ?_;refine⟨⟨a.kind,a.iter,a.state,a.is,a.key,a.val,a.err⟩,by unfold rO;rw[HU.o],by unfold jm;rw[if_pos rfl];exact⟨GJ.o.1,GJ.o.2.1,GJ.o.2.2.1,GJ.o.2.2.2.1,GJ.o.2.2.2.2⟩,uy.o.own HG.o.lt HG.o.base HB3.o (S:=[ob,rb]) ?_ ?_⟩
   ·repeat refine Mod.ak ?_ (.inl (by simp)) _ _
    exact oV.o.more (by simp)
   ·intro q hq;simp only[zt,Q1,XS]at hq;rcases hq with rfl|rfl
    ·exact .inl ⟨dN.o.1.1,dN.o.1.2⟩
    ·exact .inl ⟨dN.o.2.1.1,dN.o.2.1.2⟩
 ·have HC:=qd (YJ (HD.o _ HB3.o) H6.o it);go_wp2_with fail;refine HC.o.mono ?_;rintro y w4 ⟨rfl,hto⟩;have uy:=qd hto;have dO:=hto.mod;have HR4:=qd (HR3.o.mod dO (λhq=>HG.o.far _ dN.o.2.1.1 hq));have hO4:=qZ.o.mod dO (λhq=>HG.o.far _ dN.o.1.1 hq);clear hto dO HC qZ HR3;rcases oI E (idE s it)with hu|⟨A,hu⟩
  ·have HU:=qd hu;rw[hu];clear hu;have g6:=hO4.frozen 6;have q6:=hO4.cell 6;simp only[gl]at q6;go_upto_region 23 with fail;refine aY (F:=λv=>aj v ob 56 #[.int .i64 8,.int .i64 0,.int .i64 0,.bool false,.int .u64 0,.int .u64 0,.nilIface]/\Mod [ob] w4 v) ⟨(by simpa using(hO4.ak 6 (.nilIface))),((Mod.refl [ob] w4).sl 6 (.nilIface))⟩ ?_;rintro w5 ⟨ku,dz⟩;obtain⟨c0,c1,c2,c3,c4,c5,c6⟩:=gV ku;have d9:=HR4.o.mod dz (by simp only[zj];exact λe=>dN.o.2.2 e.symm);unfold ou at d9;obtain⟨r0,r1,r2,r3,r4,r5,r6⟩:=gV d9;obtain⟨f0,f1,f2,f3,f4,f5,f6⟩:=l7 d9;have oV:=qd dz;clear ku dz d9 HR4 hO4 g6 q6;go_wp2;refine bodyPost_ret (v:= .tuple #[.agg #[.int .i64 8,.int .i64 0,.int .i64 0,.bool false,.int .u64 0,.int .u64 0,.nilIface],.nilIface]) (by simp[results,Tryz.results18,go_sem,r0,r1,r2,r3,r4,r5,r6]) rfl ?_;refine⟨(kr M I s ⟨8,(key:Int),(val:Int),yt,it⟩),Q0 HU.o,by unfold jm;rw[if_neg (show¬(8:Int)=7 by decide)],uy.o.own HG.o.lt HG.o.base HB3.o (S:=[ob,rb]) ?_ ?_⟩
   ·repeat refine Mod.ak ?_ (.inl (by simp)) _ _
    exact oV.o.more (by simp)
   ·intro q hq;simp only[zt,Q1,XS]at hq;rcases hq with rfl|rfl
    ·exact .inl ⟨dN.o.1.1,dN.o.1.2⟩
    ·exact .inl ⟨dN.o.2.1.1,dN.o.2.1.2⟩
  ·have HU:=qd hu;rw[hu];clear hu;have g6:=hO4.frozen 6;have q6:=hO4.cell 6;simp only[gl]at q6;go_upto_region 23 with fail;refine aY (F:=λv=>aj v ob 56 #[.int .i64 8,.int .i64 0,.int .i64 0,.bool false,.int .u64 0,.int .u64 0,.iface 333 (.pointer (some A))]/\Mod [ob] w4 v) ⟨(by simpa using(hO4.ak 6 (.iface 333 (.pointer (some A))))),((Mod.refl [ob] w4).sl 6 (.iface 333 (.pointer (some A))))⟩ ?_;rintro w5 ⟨ku,dz⟩;obtain⟨c0,c1,c2,c3,c4,c5,c6⟩:=gV ku;have d9:=HR4.o.mod dz (by simp only[zj];exact λe=>dN.o.2.2 e.symm);unfold ou at d9;obtain⟨r0,r1,r2,r3,r4,r5,r6⟩:=gV d9;obtain⟨f0,f1,f2,f3,f4,f5,f6⟩:=l7 d9;have oV:=qd dz;clear ku dz d9 HR4 hO4 g6 q6;go_wp2;refine bodyPost_ret (v:= .tuple #[.agg #[.int .i64 8,.int .i64 0,.int .i64 0,.bool false,.int .u64 0,.int .u64 0,.iface 333 (.pointer (some A))],.nilIface]) (by simp[results,Tryz.results18,go_sem,r0,r1,r2,r3,r4,r5,r6]) rfl ?_;refine⟨(kr M I s ⟨8,(key:Int),(val:Int),yt,it⟩),Q0 HU.o,by unfold jm;rw[if_neg (show¬(8:Int)=7 by decide)],uy.o.own HG.o.lt HG.o.base HB3.o (S:=[ob,rb]) ?_ ?_⟩
   ·repeat refine Mod.ak ?_ (.inl (by simp)) _ _
    exact oV.o.more (by simp)
   ·intro q hq;simp only[zt,Q1,XS]at hq;rcases hq with rfl|rfl
    ·exact .inl ⟨dN.o.1.1,dN.o.1.2⟩
    ·exact .inl ⟨dN.o.2.1.1,dN.o.2.1.2⟩
end
section
variable {ops : Array Oper} {rest : List Oper} {o : Oper} {Q : Exit -> Act -> World -> Prop}
def iG (w:World)(P:Program)(k e:TypeId)(qk q:IntKind)(b n:Nat)(f:Int->Option Int):Prop:=
 ∃D:DataW Unit,w.ownsMap P k (plainElem P e) b n D/\∀x,(Lit.int qk x).wf=true->Maps.has D (.int qk x)=(f x).isSome/\∀v,f x=some v->D.atKey (.int qk x) (.lit (.int q 0))= .lit (.int q v)
section
variable {P : Program} {k e t : TypeId} {qk q : IntKind} {b n : Nat} {f : Int -> Option Int} {w w' : World}
theorem iG.made (w:World)(P:Program)(k e:TypeId)(qk q:IntKind):iG (w.alloc (.map #[] 0)) P k e qk q w.heap.size 0 (λ_=>none):=
 ⟨_,World.ownsMap_made w P k _,λx _=>⟨rfl,λv hv=>by cases hv⟩⟩
theorem iG.alloc (h:iG w P k e qk q b n f)(o:Obj):iG (w.alloc o) P k e qk q b n f:=by
 obtain⟨D,h1,h2⟩:=h;exact⟨D,h1.alloc o,h2⟩
theorem iG.drewN (h:iG w P k e qk q b n f)(m:Nat):iG (w.drewN m) P k e qk q b n f:=by
 obtain⟨D,h1,h2⟩:=h;exact⟨D,h1,h2⟩
theorem iG.kept {row:Option Nat}(h:iG w P k e qk q b n f)(hg:w.grownBy w' row)(hne:some b≠row):iG w' P k e qk q b n f:=by
 obtain⟨D,h1,h2⟩:=h;exact⟨D,h1.kept hg hne,h2⟩
theorem iG.below {B:Nat}(h:iG w P k e qk q b n f)(hb:Below B w w')(hB:b<B):iG w' P k e qk q b n f:=by
 obtain⟨D,⟨es,clock,hh,r⟩,h2⟩:=h;exact⟨D,⟨es,clock,(hb.block b hB).trans hh,r⟩,h2⟩
theorem iG.lt (h:iG w P k e qk q b n f):b<w.heap.size:=by
 obtain⟨D,h1,_⟩:=h;exact h1.lt
theorem iG.congr {g:Int->Option Int}(h:iG w P k e qk q b n f)(he:∀x,f x=g x):iG w P k e qk q b n g:=by
 obtain rfl:f=g:=funext he;exact h
theorem FC {a c:Int}(h:(DataW.lit (.int q a):DataW Unit)= .lit (.int q c)):a=c:=by
 injection h with h
 injection h
theorem vK {a:Act}(hg:o.guard=none)(m x:Operand)(hop:o.op=Op.lookup t m x true)(hk:P.underlying k=some (.int qk))(ht:P.underlying t=some (.map k e))(he:P.underlying e=some (.int q))(hz:(zeroValue e).run P w= .ok (.int q 0) w)(hm:a.eval m= .map (some b))(hown:iG w P k e qk q b n f)(xv:Int)(hx:a.eval x= .int qk xv)(hw:(Lit.int qk xv).wf=true)(hK:wpList P ops Q rest (a.put o.dst (.tuple #[.int q ((f xv).getD 0),.bool (f xv).isSome])) w):
  wpList P ops Q (o::rest) a w:=by
 obtain⟨D,h1,h2⟩:=hown;obtain⟨h3,h4⟩:=h2 xv hw;refine wpList_lookup_own_ok_int w hg m x t hop k e q (int_keyed hk) ht he hz b n D hm h1 _ _ hx (keyOf_int_mk hk hw) λc hc _=> ?_;rw[h3]
 cases hf:f xv with
 |some v=>
  rw[h4 v hf]at hc;obtain rfl:=FC hc;rw[hf]at hK;exact hK
 |none=>
  rw[hf]at h3;rw[atKey_of_not_has h3]at hc;obtain rfl:=FC hc;rw[hf]at hK;exact hK
theorem vY {a:Act}(hg:o.guard=none)(m x:Operand)(hop:o.op=Op.lookup t m x false)(hk:P.underlying k=some (.int qk))(ht:P.underlying t=some (.map k e))(he:P.underlying e=some (.int q))(hz:(zeroValue e).run P w= .ok (.int q 0) w)(hm:a.eval m= .map (some b))(hown:iG w P k e qk q b n f)(xv:Int)(hx:a.eval x= .int qk xv)(hw:(Lit.int qk xv).wf=true)(hK:wpList P ops Q rest (a.put o.dst (.int q ((f xv).getD 0))) w):
  wpList P ops Q (o::rest) a w:=by
 obtain⟨D,h1,h2⟩:=hown;obtain⟨h3,h4⟩:=h2 xv hw;refine wpList_lookup_own_int w hg m x t hop k e q (int_keyed hk) ht he hz b n D hm h1 _ _ hx (keyOf_int_mk hk hw) λc hc _=> ?_
 cases hf:f xv with
 |some v=>
  rw[h4 v hf]at hc;obtain rfl:=FC hc;rw[hf]at hK;exact hK
 |none=>
  rw[hf]at h3;rw[atKey_of_not_has h3]at hc;obtain rfl:=FC hc;rw[hf]at hK;exact hK
theorem pG {a:Act}(hg:o.guard=none)(m x v:Operand)(hop:o.op=Op.mapUpdate t m x v)(hk:P.underlying k=some (.int qk))(ht:P.underlying t=some (.map k e))(he:P.underlying e=some (.int q))(hm:a.eval m= .map (some b))(hown:iG w P k e qk q b n f)(hn:n<maxLen)(xv vv:Int)(hx:a.eval x= .int qk xv)(hv:a.eval v= .int q vv)(hw:(Lit.int qk xv).wf=true)(hwv:(Lit.int q vv).wf=true)(hK:∀w',iG w' P k e qk q b (n+1) (λy=>if y=xv then some vv else f y)->w.grownBy w' (some b)->wpList P ops Q rest (a.put o.dst undef) w'):
  wpList P ops Q (o::rest) a w:=by
 obtain⟨D,h1,h2⟩:=hown;have hD:IsMap D:=h1.isMap;refine wpList_mapUpdate_own w hg m x v t hop k e (int_keyed hk) ht _ b n D hm h1 hn _ _ _ hx hv (keyOf_int_mk hk hw) _ [] (plainElem_int he hwv) λw' h3 h4=>hK w' ⟨_,h3,λy hy=> ?_⟩ h4;have hkl:WideAt.IsKeyLit (.int qk xv):=(int_keyed hk).key (keyOf_int_mk hk hw);by_cases hyx:y=xv
 ·subst hyx;refine⟨?_,λu hu=> ?_⟩
  ·rw[has_put_same hD hkl];simp
  ·rw[atKey_put_same hD hkl];simp at hu;rw[hu]
 ·have hne:(Lit.int qk y)≠ .int qk xv:=λe=>hyx (by injection e);obtain⟨h5,h6⟩:=h2 y hy;simp only[hyx,xx];refine⟨by rw[has_put_other hne];exact h5,λu hu=> ?_⟩;rw[atKey_put_other hne];exact h6 u hu
end
end
