/- A new core; a core's Groups; a plan's Groups. -/
import Derived.Test.YtnfjjbpmhcbelaaGreatDoorCoCP
import Derived.Test.YtnfjjbpmhcbelaaGreatDoorGaugeA
import Derived.Test.YtnfjjbpmhcbelaaGreatDoorSqM
import Derived.Test.YtnfjjbpmhcbelaaGreatDoorCoBQ
namespace Go.Proofs.YtnfjjbpmhcbelaaGreatDoor
set_option maxRecDepth 100000
set_option maxHeartbeats 4000000
open Go.RowKit dI Go.Maps
def nd0:Nd:=⟨0,0,0,0,dR 1 1,.idle⟩
def nN:Pool:=⟨[nd0],0,[0],none⟩
theorem acQ (H:Nat→Nat):dU H nd0:=by
 obtain⟨h1,h2,h3⟩:=JC (n:=1) (.inl rfl)
 have hE:nd0.ents=[]:=by unfold Nd.ents nd0;rw[h2];rfl
 refine⟨h1,Nat.zero_le _,.inl rfl,by decide,Nat.zero_le _,by rw[hE];exact List.nodup_nil,fun e he=>(by rw[hE]at he;cases he),by rw[hE];exact Nat.zero_le _,rfl, ?_⟩;show load (dR 1 1)≤_;rw[h3];exact Nat.zero_le _
theorem TS:nN.ents=[]:=by
 obtain⟨h1,h2,h3⟩:=JC (n:=1) (.inl rfl)
 have hE:nd0.ents=[]:=by unfold Nd.ents nd0;rw[h2];rfl
 unfold Pool.ents nN;simp[hE]
theorem inv0:jV nN [] []:=by
 have hget:∀(i:Nat) (N:Nd),nN.Ns[i]?=some N→i=0∧N=nd0:=fun i N hN=>by
  have h1:i<1:=bG hN
  obtain rfl:i=0:=by omega
  exact⟨rfl,(Option.some.inj hN).symm⟩
 refine⟨⟨fun i N hN=> ?_,fun j hj=> ?_,fun i N j hN hj hp=> ?_,rfl,fun i N hN hb=> ?_,fun c hc=>by cases hc⟩,fun id=> ?_,List.nodup_nil,List.nodup_nil,fun i hi=>(by cases hi),fun i hi=>(by cases hi),fun i hi=>(by cases hi),fun i N hN _=> ?_⟩
 ·obtain⟨_,rfl⟩:=hget i N hN;exact⟨Nat.le_refl _,by decide⟩
 ·have h1:j<1:=hj
  obtain rfl:j=0:=by omega
  exact⟨nd0,rfl,rfl⟩
 ·obtain⟨rfl,rfl⟩:=hget i N hN;have h1:j<1:=hj
  obtain rfl:j=0:=by omega
  rfl
 ·obtain⟨_,rfl⟩:=hget i N hN;cases hb
 ·constructor
  ·rintro(⟨N,h1,h2⟩|⟨_,_,c,h3⟩)
   ·obtain⟨_,rfl⟩:=hget id N h1;cases h2
   ·cases h3
  ·rintro(h|h)<;>cases h
 ·obtain⟨_,rfl⟩:=hget i N hN;rfl
def pq (K M I db sb vb:Nat):Array Value:= #[nI K,nI M,nI I,.int .i64 0,.int .i64 0,.int .i64 0,.int .i64 0,.int .i64 0,.int .i64 0,.bool false,.int .i64 0,.slice (some ⟨vb,0,none⟩) 1 1,pQ db,.pointer none,pQ sb,.int .i64 0]
def st0:lG:=⟨nN,[],0,0,zH⟩
def yI (nb db eb:Nat):dA:=⟨fun _=>nb,db,eb,0,0,0⟩
theorem aB.fresh {W0:World}{E:Nat→Addr}(H:Nat→Nat){w w5:World}{nb tb gb db eb sb qb rb jb vb K M I:Nat}(hE:Env W0 E w)(hK:1≤K∧K≤64)(hM:1≤M∧M≤192)(hb:Below w.heap.size w w5)(hN:bJ w5 nb [nb,tb,gb] nd0)(hD:dz w5 db eb 0 [0])(hS:dX w5 sb qb rb jb (K:Int) 0 (yI nb db eb).val [])
  (hR:w5.ownsRow W0.heap.size 135 1 (.slice (some ⟨vb,0,none⟩) 1 1) 1 [pQ nb]) (hlow:∀q∈[nb,tb,gb,db,eb,sb,qb,rb,jb,vb],w.heap.size≤q) (hap:∀q∈[nb,tb,gb],q∉[db,eb,sb,qb,rb,jb,vb]) (acR:∀q∈[db,eb],q∉[sb,qb,rb,jb,vb]) (aew:∀q∈[sb,qb,rb,jb],q≠vb):
  ∃F,aB W0 E H ⟨w5.heap.size,sb,qb,rb,jb,yI nb db eb,.slice (some ⟨vb,0,none⟩) 1 1,K,M,I,0⟩ w [] (w5.alloc (.cells (pq K M I db sb vb) 147)) F st0:=by
 have hb6:Below w5.heap.size w5 (w5.alloc (.cells (pq K M I db sb vb) 147)):=(Below.refl _ _).alloc (Nat.le_refl _) _;have oC:=Mod.of_below hb6 [];have hz:=hb.size;have hzW:=hE.size;have hvl:=(hR.lt vb rfl).2;have hNl:=hN.gI;have hSl:=hS.lt
 have adK:∀(i:Nat) (N:Nd),[nd0][i]?=some N→i=0∧N=nd0:=fun i N hh=>by
  have h1:i<1:=bG hh
  obtain rfl:i=0:=by omega
  exact⟨rfl,(Option.some.inj hh).symm⟩
 have hfp:∀q,q∈gV (yI nb db eb) (fun _=> [nb,tb,gb]) nN↔q∈[nb,tb,gb,db,eb]:=fun q=>by
  rw[aS];constructor
  ·rintro(⟨i,_,hq⟩|hq)
   ·simp at hq⊢;omega
   ·unfold dA.dY yI nN at hq;simp at hq⊢;omega
  ·intro hq;by_cases h1:q∈[nb,tb,gb]
   ·exact .inl ⟨0,by decide,h1⟩
   ·refine .inr ?_;unfold dA.dY yI nN;simp at hq h1⊢;omega
 have adL:iV W0 w5.heap.size H (yI nb db eb) (w5.alloc (.cells (pq K M I db sb vb) 147)) (fun _=> [nb,tb,gb]) nN:=by
  refine⟨fun i N hi=> ?_,hD.mod oC (by simp) (by simp),fun next lf hc=>(by cases hc),fun i j hi hj hij=> ?_,fun i hi q hq hq2=> ?_,fun q hq=> ?_,fun hq=> ?_,by decide⟩
  ·obtain⟨_,rfl⟩:=adK i N hi;exact⟨hN.mod oC (by simp),acQ H⟩
  ·have h1:i<1:=hi;have h2:j<1:=hj;omega
  ·unfold dA.dY yI nN at hq2;exact hap q hq (by simp at hq2⊢;omega)
  ·have h1:=(hfp q).1 hq;have:=hlow q (by simp at h1⊢;omega);omega
  ·have h1:=(hfp _).1 hq;simp at h1;have h2:=hD.lt;have h3:=hD.K3;have h4:=hNl nb (by simp);have h5:=hNl tb (by simp);have h6:=hNl gb (by simp);omega
 have hmet:aN (w5.alloc (.cells (pq K M I db sb vb) 147)) (cmp ⟨w5.heap.size,sb,qb,rb,jb,yI nb db eb,.slice (some ⟨vb,0,none⟩) 1 1,K,M,I,0⟩ st0) zH:=⟨rfl,aj.new w5 147 (pq K M I db sb vb)⟩;have hsb:∀q∈[sb,qb,rb,jb],q<w5.heap.size:=hSl;refine⟨gV (yI nb db eb) (fun _=> [nb,tb,gb]) nN,bD.start (hS.mod oC (by simp)) ⟨_,rfl,adL⟩ hmet (hE.mod ((Mod.of_below hb []).then oC) (by simp)) (fun q hq=>⟨fun hqF=> ?_, ?_, ?_⟩) (by show W0.heap.size≤w5.heap.size;omega),hR.alloc _,fun g hg hq=> ?_,by decide,hK,hM,hzW,fun q hq=> ?_,(Mod.of_below hb []).then oC⟩
 ·have hq':q∈[sb,qb,rb,jb]:=hq;have h1:=(hfp q).1 hqF;by_cases h2:q∈[nb,tb,gb]
  ·exact hap q h2 (by simp at hq'⊢;omega)
  ·exact acR q (by simp at h1 h2⊢;omega) (by simp at hq'⊢;omega)
 ·have:=hsb q hq;show q≠w5.heap.size;omega
 ·have hq':q∈[sb,qb,rb,jb]:=hq;have:=hlow q (by simp at hq'⊢;omega);omega
 ·have hg':g=vb:=by simpa using(Option.some.inj hg).symm
  subst hg'
  have hq':g=w5.heap.size∨g∈[sb,qb,rb,jb]∨g∈gV (yI nb db eb) (fun _=> [nb,tb,gb]) nN:=by
   rcases List.mem_cons.1 hq with h3|h3
   ·exact .inl h3
   ·exact .inr (List.mem_append.1 h3)
  rcases hq' with h1|h1|h1
  ·omega
  ·exact aew g h1 rfl
  ·have h2:=(hfp g).1 h1;by_cases h3:g∈[nb,tb,gb]
   ·exact hap g h3 (by simp)
   ·exact acR g (by simp at h2 h3⊢;omega) (by simp)
 ·right;rcases aZ.1 hq with h1|h1|h1|h1
  ·have h2:q=w5.heap.size:=h1;omega
  ·have h2:q∈[sb,qb,rb,jb]:=h1;exact hlow q (by simp at h2⊢;omega)
  ·have h2:=(hfp q).1 h1;exact hlow q (by simp at h2⊢;omega)
  ·have h2:q=vb:=by simpa using(Option.some.inj h1).symm
   exact hlow q (by simp[h2])
def aex (Ns:List Nd)(i:Nat):Nat:=((Ns.take i).map Nd.groups).sum
section
variable {W0 w : World} {E : Nat → Addr}
def NewAt (W0:World)(E:Nat→Addr)(H:Nat→Nat)(K M:Nat)(w:World)(mb:Nat)(w':World):Prop:=∃(C:iF) (F:List Nat),C.mb=mb∧C.K=K∧C.M=M∧aB W0 E H C w [] w' F st0
theorem O9 (hE:Env W0 E w)(k m i:Int)(hcf:oD k m i=false):Calls Tryz.prog 46 #[gL k m i] w fun e w'=>e= .returned (.tuple #[.pointer none,jf E 1])∧Below w.heap.size w w':=by
 have wN:=qd hE;have hB0:=aj.new w 23 #[.int .i64 k,.int .i64 m,.int .i64 i];have hb0:=(Below.refl w.heap.size w).alloc (Nat.le_refl _) (.cells #[.int .i64 k,.int .i64 m,.int .i64 i] 23);unfold gL;go_in;go_upto_region 1 with fail;refine bV (F:=fun v=>aj v w.heap.size 23 #[.int .i64 k,.int .i64 m,.int .i64 i]∧Below w.heap.size w v) ⟨hB0,hb0⟩ ?_;clear hB0 hb0;rintro w1 ⟨hB1,hb1⟩;obtain⟨bx,hbx⟩:∃bx,bx=w.heap.size:=⟨_,rfl⟩;rw[←hbx]at hB1⊢;have kI:=qd hbx;have HB:=qd hB1;have oN:=qd (hE.mod (Mod.of_below hb1 []) (by simp));have Ah:=qd hb1;obtain⟨k0,k1,k2⟩:=hB1.c3;have Ec:=qd (tu k m i w1 oN.out.errs);rw[hcf]at Ec;simp only[Bool.false_eq_true,if_false]at Ec;rw[iI E (by omega)]at Ec;unfold gL at Ec;clear hB1 hb1 hbx hE;go_wp2_with fail;refine Ec.out.mono ?_;rintro y w2 ⟨rfl,hb2⟩;go_wp2;refine bodyPost_ret (v:= .tuple #[.pointer none,.iface 351 (.pointer (some (E 1)))]) (by simp[results,Tryz.results46,go_sem]) rfl ⟨?_,jq Ah.out hb2⟩;rw[iI E (by omega)]
theorem ZJ (H:Nat→Nat)(hE:Env W0 E w)(k m i:Int)(hcf:oD k m i=true)(K M I:Nat)(hkm:(1≤K∧K≤64)∧(1≤M∧M≤192)∧k=(K:Int)∧m=(M:Int)∧i=(I:Int)):Calls Tryz.prog 46 #[gL k m i] w fun e w'=>∃mb,e= .returned (.tuple #[bg mb,.nilIface])∧NewAt W0 E H K M w mb w':=by
 have IU:=qd hkm;clear hkm;have wN:=qd hE;have hB0:=aj.new w 23 #[.int .i64 k,.int .i64 m,.int .i64 i];have hb0:=(Below.refl w.heap.size w).alloc (Nat.le_refl _) (.cells #[.int .i64 k,.int .i64 m,.int .i64 i] 23);unfold gL;go_in;go_upto_region 1 with fail;refine bV (F:=fun v=>aj v w.heap.size 23 #[.int .i64 k,.int .i64 m,.int .i64 i]∧Below w.heap.size w v) ⟨hB0,hb0⟩ ?_;clear hB0 hb0;rintro w1 ⟨hB1,hb1⟩;obtain⟨bx,hbx⟩:∃bx,bx=w.heap.size:=⟨_,rfl⟩;rw[←hbx]at hB1⊢;have kI:=qd hbx;have HB:=qd hB1;have oN:=qd (hE.mod (Mod.of_below hb1 []) (by simp));have Ah:=qd hb1;obtain⟨k0,k1,k2⟩:=hB1.c3;have Ec:=qd (tu k m i w1 oN.out.errs);rw[hcf]at Ec;simp only[if_true]at Ec;unfold gL at Ec;have hz1:=hb1.size;have agf:=HB.out.lt;clear hB1 hb1 hE hbx;go_wp2_with fail;refine Ec.out.mono ?_;rintro y w2 ⟨rfl,hb2⟩;replace HB:=qB hb2 HB;replace Ah:=qd (jq Ah.out hb2);replace oN:=qB hb2 oN;have hz2:=hb2.size;clear hb2 Ec k0 k1 k2;go_wp2_with fail;refine(Za w2).mono ?_;rintro y w3 ⟨nb,tb,gb,rfl,hn1,hn2,⟨l1,l2,l3,l4,l5⟩,hb3⟩;have HN:=qd (show bJ w3 nb [nb,tb,gb] nd0 from⟨tb,gb,hn1,hn2,rfl,l4,l5⟩);replace HB:=qB hb3 HB;replace Ah:=qd (jq Ah.out hb3);replace oN:=qB hb3 oN;have hz3:=hb3.size;have l6:=hn2.ne;have hnl:=HN.out.gI;have agh:=hnl nb (by simp);have agi:=hnl tb (by simp);have agj:=hnl gb (by simp);clear hb3 hn1 hn2 hnl;unfold aL;have HDn:=qd (show Calls Tryz.prog 73 #[.int .i64 0] w3 _ from Q9 0 (by omega) w3);unfold iJ at HDn
 go_wp2_with fail;refine HDn.out.mono ?_;rintro y w4 ⟨rfl,hd4,hb4⟩;have HD:=qd (show dz w4 (w3.heap.size+1) w3.heap.size 0 [0]from hd4);replace HN:=qd (HN.out.mod (Mod.of_below hb4 []) (by simp));replace HB:=qB hb4 HB;replace Ah:=qd (jq Ah.out hb4);replace oN:=qB hb4 oN;have hz4:=hb4.size;have aey:=HD.out.lt;have aez:=HD.out.K3;obtain⟨db,hdb⟩:∃db,db=w3.heap.size+1:=⟨_,rfl⟩;obtain⟨eb,Fh⟩:∃eb,eb=w3.heap.size:=⟨_,rfl⟩;rw[←hdb,←Fh]at HD;rw[←hdb];rw[←hdb]at aey;rw[←Fh]at aez;have um:=qd hdb;have rP:=qd Fh;clear hb4 hd4 HDn hdb Fh;have kk:=HB.out.c3;have dZ:=qd (V7 k (by have:=IU.out;omega) (yI nb db eb).val w4 oN.out.errs);unfold eG at dZ;go_wp2_with fail;refine dZ.out.mono ?_;rintro y w5 ⟨sb,qb,rb,jb,rfl,hs5,hsl,hb5⟩;have HS:=qd hs5;replace HN:=qd (HN.out.mod (Mod.of_below hb5 []) (by simp));replace HD:=qB hb5 HD;replace HB:=qB hb5 HB;replace Ah:=qd (jq Ah.out hb5);replace oN:=qB hb5 oN;have hz5:=hb5.size;have HSl:=qd hsl;clear kk hb5 hs5 dZ hsl;have kk:=HB.out.c3;go_wp2;have hrow:=World.ownsRow_lit (base:=W0.heap.size) (e:=135) (size:=1) w5 #[pQ nb] 1 (by have:=oN.out.size;omega) (by decide) rfl;have hb6:Below w5.heap.size w5 (w5.alloc (.cells #[pQ nb] 135)):=(Below.refl _ _).alloc (Nat.le_refl _) _;have oC:=Mod.of_below hb6 [];have hsl:=HSl.out;have hd1:=um.out;have hd2:=rP.out;have s1:=hsl sb (by simp);have s2:=hsl qb (by simp);have s3:=hsl rb (by simp);have s4:=hsl jb (by simp);have hslt:=HS.out.lt;have t1:=hslt sb (by simp);have t2:=hslt qb (by simp)
 have t3:=hslt rb (by simp);have t4:=hslt jb (by simp);have agk:=kI.out
 obtain⟨F,hF⟩:=aB.fresh H (w:=w) (w5:=w5.alloc (.cells #[pQ nb] 135)) (nb:=nb) (tb:=tb) (gb:=gb) (db:=db) (eb:=eb) (sb:=sb) (qb:=qb) (rb:=rb) (jb:=jb) (vb:=w5.heap.size) (K:=K) (M:=M) (I:=I) wN.out IU.out.1 IU.out.2.1 (jq Ah.out hb6) (HN.out.mod oC (by simp)) (HD.out.mod oC (by simp) (by simp)) (IU.out.2.2.1▸HS.out.mod oC (by simp)) hrow
  (by intro q hq;simp at hq;omega) (by intro q hq;simp at hq⊢;omega) (by intro q hq;simp at hq⊢;omega) (by intro q hq;simp at hq;omega)
 have hkk:=IU.out.2.2
 have hq:pq K M I db sb w5.heap.size= #[.int .i64 k,.int .i64 m,.int .i64 i,.int .i64 0,.int .i64 0,.int .i64 0,.int .i64 0,.int .i64 0,.int .i64 0,.bool false,.int .i64 0,.slice (some ⟨w5.heap.size,0,none⟩) 1 1,pQ db,.pointer none,pQ sb,.int .i64 0]:=by
  unfold pq;rw[hkk.1,hkk.2.1,hkk.2.2]
 rw[hq]at hF;refine bodyPost_ret (v:= .tuple #[.pointer (some ⟨w5.heap.size+1,0,none⟩),.nilIface]) (by simp[results,Tryz.results46,go_sem]) rfl ⟨w5.heap.size+1,rfl,⟨_,F, ?_,rfl,rfl,hF⟩⟩;simp
end
section
variable {α : Type} {id : Nat} {W0 w : World} {E : Nat → Addr}
def agl {α:Type}(left:α→Nat→Nat)(a:α)(ids:List Nat):Nat:=(ids.map (left a)).sum
def Pb (l:Lit→Bool)(rem:List Nat):Prop:=∀x:Int,(Lit.int .i64 x).wf=true→(l (.int .i64 x)=true↔∃id∈rem,x=(id:Int))
theorem Pb.next {l:Lit→Bool}{rem:List Nat}(h:Pb l rem)(hn:rem.Nodup):Pb (fun z=>l z && !z.sameKey (.int .i64 (id:Int))) (rem.erase id):=fun x hx=>by
 have hk:(Lit.int .i64 x).sameKey (.int .i64 (id:Int))=decide (x=(id:Int)):=by simp[Lit.sameKey]
 show(l (.int .i64 x) && !(Lit.int .i64 x).sameKey (.int .i64 (id:Int)))=true↔_;rw[hk,Bool.and_eq_true,h x hx];constructor
 ·rintro⟨⟨j,hj,rfl⟩,h2⟩
  have h3:¬(j:Int)=(id:Int):=by simpa using h2
  exact⟨j,(List.mem_erase_of_ne (fun e=>h3 (by rw[e]))).2 hj,rfl⟩
 ·rintro⟨j,hj,rfl⟩;rw[hn.mem_erase_iff]at hj;have h3:¬(j:Int)=(id:Int):=fun e=>hj.1 (by omega);exact⟨⟨j,hj.2,rfl⟩,by simpa using h3⟩
end
section
variable {g gl id k len' lo mx : Nat} {N N1 : Nd} {add del : List av} {C : iF} {F aK : List Nat} {a' : Pool} {t : Int}
def gN (W0:World)(E:Nat→Addr)(H:Nat→Nat)(K M mb:Nat)(G:List Nat)(w:World)(a:Pool)(ids:List Nat):Prop:=
 ∃(C:iF) (F:List Nat) (len:Nat) (b:Int) (x:bL),C.mb=mb∧C.K=K∧C.M=M∧G=C.foot F∧aB W0 E H C w (C.foot F) w F ⟨a,ids,len,b,x⟩∧jV a ids []∧len=a.ents.length∧len≤M
def jS (W0:World)(E:Nat→Addr)(H:Nat→Nat)(K M mb:Nat)(G:List Nat)(w w':World)(a':Pool)(aK:List Nat):Prop:=
 ∃G',gN W0 E H K M mb G' w' a' aK∧(∀q∈G',q∈G∨w.heap.size≤q)∧Mod G w w'
def WI (H:Nat→Nat)(K:Nat)(a:Pool)(ids:List Nat)(del add:List av)(a':Pool)(aK:List Nat):Prop:=
 ∃(id:Nat) (N N1:Nd),a.Ns[id]?=some N∧Wr H del add N N1∧aaE H K {a with Ns:=a.Ns.set id N1} ids id a' aK∧uo del add a.ents a'.ents∧a'.ents.Perm ((a.Ns.set id N1).flatMap Nd.ents)
theorem acS {H:Nat→Nat}{a:Pool}(hN:a.Ns[id]?=some N)(hw:Wr H del add N N1):uo del add a.ents ((a.Ns.set id N1).flatMap Nd.ents):=by
 obtain⟨B,B',b1,b2⟩:=sD (N':=N1) hN;unfold Pool.ents;rw[b1,b2];exact hw.Iy.wrap B B'
section
variable {W0 : World} {E : Nat → Addr} {H : Nat → Nat} {K M mb : Nat} {G : List Nat} {w w' : World} {a : Pool} {ids : List Nat}
theorem jS.of {A':dA}{v':Value}{F':List Nat}{b':Int}{x':bL}(h1:C.mb=mb)(h2:C.K=K)(h3:C.M=M)(hc:aB W0 E H {C with A:=A',v:=v'} w (C.foot F) w' F' ⟨a',aK,len',b',x'⟩)(hi:jV a' aK [])(hl:len'=a'.ents.length)(hm:len'≤M):jS W0 E H K M mb (C.foot F) w w' a' aK:=
 ⟨({C with A:=A',v:=v'}:iF).foot F',⟨{C with A:=A',v:=v'},F',len',b',x',h1,h2,h3,rfl,hc.again,hi,hl,hm⟩,hc.sub,hc.mod⟩
theorem zm {len:Nat}{b:Int}{x:bL}(h1:C.mb=mb)(h2:C.K=K)(h3:C.M=M)(hl:len=a.ents.length)(hl':len'+del.length=len+add.length)(hm:len'≤M)(h:yH W0 E H C w (C.foot F) ⟨a,ids,len,b,x⟩ id del add len' w'):
  ∃a' aK,WI H K a ids del add a' aK∧jS W0 E H K M mb (C.foot F) w w' a' aK:=by
 obtain⟨N,N1,x1,hN,hw,_,A',v',F',a',aK,b',x',u,k1,k2,k3,k4,_⟩:=h;have hch:=acS hN hw;have acT:uo del add a.ents a'.ents:=hch.perm (.refl _) k3;have hlen:=acT.len;exact⟨a',aK,⟨id,N,N1,hN,hw,h2▸k1,acT,k3⟩,jS.of h1 h2 h3 k4 k2 (by show len'=_;omega) hm⟩
theorem acU (h:gN W0 E H K M mb G w a ids)(e:av)(he:mG H e):Calls Tryz.prog 52 #[bg mb,nU e.key,nU e.val,nU e.hash] w fun y w'=>
  (look a.ents e.key=none∧M≤a.ents.length∧y= .returned (jf E 2)∧jS W0 E H K M mb G w w' a ids)∨
  (∃a' aK,look a.ents e.key=none∧a.ents.length<M∧y= .returned .nilIface∧WI H K a ids [] [e] a' aK∧jS W0 E H K M mb G w w' a' aK)∨
  (∃a' aK e0,look a.ents e.key=some e0∧y= .returned .nilIface∧WI H K a ids [e0] [{e0 with val:=e.val}] a' aK∧jS W0 E H K M mb G w w' a' aK):=by
 obtain⟨C,F,len,b,x,h1,h2,h3,rfl,hC,hi,hl,hm⟩:=h;rw[←h1]
 cases hlk:look a.ents e.key with
 |some e0=>
  obtain⟨m1,m2⟩:=nK hlk;refine(JR hC hi e he e0 m1 m2).mono ?_;rintro y w' ⟨rfl,id,hp⟩;obtain⟨a',aK,k1,k2⟩:=zm h1 h2 h3 hl (by simp) hm hp;exact .inr (.inr ⟨a',aK,e0,rfl,rfl,k1,h1▸k2⟩)
 |none=>
  have hno:∀y∈a.ents,y.key≠e.key:=fun y hy hk=>by
   unfold look at hlk;rw[List.find?_eq_none]at hlk;exact hlk y hy (by simpa using hk)
  by_cases hlt:len<C.M
  ·refine(O8 hC hi e he hno hlt hl).mono ?_;rintro y w' ⟨rfl,id,hp⟩;obtain⟨a',aK,k1,k2⟩:=zm h1 h2 h3 hl (by simp) (by show len+1≤M;omega) hp;exact .inr (.inl ⟨a',aK,rfl,by omega,rfl,k1,h1▸k2⟩)
  ·refine(Mk hC hi e he hno hlt).mono ?_;rintro y w' ⟨rfl,x',hc,_⟩;exact .inl ⟨rfl,by omega,rfl,h1▸jS.of (A':=C.A) (v':=C.v) h1 h2 h3 hc hi hl hm⟩
theorem WJ (h:gN W0 E H K M mb G w a ids)(key:Nat)(h64:H key<18446744073709551616):Calls Tryz.prog 61 #[bg mb,nU key,.int .u64 (H key:Int)] w fun y w'=>
  ∃a' aK,y= .returned (.tuple #[.int .u64 (((look a.ents key).getD ⟨0,0,0⟩).val:Int),.bool (look a.ents key).isSome])∧WI H K a ids (look a.ents key).toList [] a' aK∧jS W0 E H K M mb G w w' a' aK:=by
 obtain⟨C,F,len,b,x,h1,h2,h3,rfl,hC,hi,hl,hm⟩:=h;have hM:=hC.mm.2;rw[←h1]
 cases hlk:look a.ents key with
 |some e0=>
  obtain⟨m1,m2⟩:=nK hlk
  have hpos:1≤len:=by rw[hl];exact List.length_pos_of_mem m1
  refine(Qj hC hi key h64 e0 m1 m2 ⟨hpos,by show len≤192;omega⟩).mono ?_;rintro y w' ⟨rfl,id,hp⟩;obtain⟨a',aK,k1,k2⟩:=zm h1 h2 h3 hl (by show len-1+1=len+0;omega) (by show len-1≤M;omega) hp;exact⟨a',aK,rfl,k1,h1▸k2⟩
 |none=>
  have hno:∀y∈a.ents,y.key≠key:=fun y hy hk=>by
   unfold look at hlk;rw[List.find?_eq_none]at hlk;exact hlk y hy (by simpa using hk)
  refine(GI hC hi key h64 hno).mono ?_;rintro y w' ⟨rfl,id,hp⟩;obtain⟨a',aK,k1,k2⟩:=zm h1 h2 h3 hl (by simp) hm hp;exact⟨a',aK,rfl,k1,h1▸k2⟩
theorem acV (h:gN W0 E H K M mb G w a ids)(key:Nat)(h64:H key<18446744073709551616):Calls Tryz.prog 62 #[bg mb,nU key,.int .u64 (H key:Int)] w fun y w'=>
  y= .returned (.tuple #[.int .u64 (((look a.ents key).getD ⟨0,0,0⟩).val:Int),.bool (look a.ents key).isSome])∧jS W0 E H K M mb G w w' a ids:=by
 obtain⟨C,F,len,b,x,h1,h2,h3,rfl,hC,hi,hl,hm⟩:=h;rw[←h1];refine(ZI hC hi key h64).mono ?_;rintro y w' ⟨rfl,x',hc,_⟩;exact⟨rfl,h1▸jS.of (A':=C.A) (v':=C.v) h1 h2 h3 hc hi hl hm⟩
theorem acW (h:gN W0 E H K M mb G w a ids):Calls Tryz.prog 63 #[bg mb] w fun e w'=>e= .returned (nI a.ents.length)∧w=w':=by
 obtain⟨C,F,len,b,x,h1,h2,h3,rfl,hC,hi,hl,hm⟩:=h;rw[←h1,←hl];exact Zy hC
theorem gN.mod {S:List Nat}(h:gN W0 E H K M mb G w a ids)(hm:Mod S w w')(hS:∀q∈S,q∉G∧W0.heap.size≤q):gN W0 E H K M mb G w' a ids:=by
 obtain⟨C,F,len,b,x,h1,h2,h3,rfl,hC,hi,hl,hm'⟩:=h
 have hd:∀q∈S,q≠C.mb∧q∉C.s.blocks∧q∉F∧C.v.ownBlock≠some q:=fun q hq=>by
  have:=(hS q hq).1;rw[aZ]at this;simp only[not_or]at this;exact this
 refine⟨C,F,len,b,x,h1,h2,h3,rfl,⟨bD.start (hC.aD.aD.mod hm (fun q hq dK=>(hd q dK).2.1 hq)) (hC.hp.zK hC.aD.pool hm (fun q hq dK=>(hd q dK).2.2.1 hq)) (hC.aD.met.mod hm (fun hq=>(hd _ hq).1 rfl)) (hC.aD.env.mod hm (fun q hq=>(hS q hq).2)) hC.aD.apart hC.aD.rZ,jJ hC.row hm (fun k hk IX=>(hd k IX).2.2.2 hk),hC.Az,hC.pos,hC.kk,hC.mm, ?_,fun q hq=> .inl hq,Mod.refl _ _⟩,hi,hl,hm'⟩;have:=hC.aD.env.size;have:=hm.size;omega
theorem gN.below (h:gN W0 E H K M mb G w a ids)(hb:Below w.heap.size w w'):gN W0 E H K M mb G w' a ids:=h.mod (Mod.of_below hb []) (by simp)
theorem gN.facts (h:gN W0 E H K M mb G w a ids):jV a ids []∧a.d≤5∧a.Ns.length≤32∧1≤a.Ns.length∧a.Ns.length≤2^a.d∧(∀(i:Nat) (N:Nd),a.Ns[i]?=some N→dU H N)∧a.ents.length≤M∧M≤192∧(1≤K∧K≤64)∧(a.ents.map av.key).Nodup∧(∀q∈G,q<w.heap.size∧W0.heap.size≤q)∧Env W0 E w:=by
 obtain⟨C,F,len,b,x,h1,h2,h3,rfl,hC,hi,hl,hm⟩:=h;obtain⟨b1,b2,b3,b4⟩:=hC.bounds;have h4:=hC.mm;have h5:=hC.kk;exact⟨hi,b1,b2,hC.pos,hi.dir.nodes,b4,by omega,by omega,by omega,I5 hi.dir b1 b4,fun q hq=>⟨hC.gI q hq,hC.Zw q hq⟩,hC.aD.env⟩
theorem acX {H:Nat→Nat}(h:NewAt W0 E H K M w mb w'):jS W0 E H K M mb [] w w' nN []:=by
 obtain⟨C,F,h1,h2,h3,hC⟩:=h;exact⟨_,⟨C,F,0,0,zH,h1,h2,h3,rfl,hC.again,inv0,by rw[TS];rfl,Nat.zero_le _⟩,hC.sub,hC.mod⟩
end
def GB (mx:Nat)(a:Pool):Prop:=∀(i:Nat) (N:Nd),a.Ns[i]?=some N→N.len≤mx∧N.each≤mx∧N.groups≤2*mx
theorem GB.more {mx':Nat}{a:Pool}(h:GB mx a)(hm:mx≤mx'):GB mx' a:=fun i N hN=>by
 have:=h i N hN;omega
end
section
variable {es l : List av} {e : av} {key : Nat}
def jB (a:Pool):List Nat:=a.Ns.map fun N=>kY N.pfx N.au
theorem vZ {h d p:Nat}:dQ h d=p↔nD p d≤h∧h≤kY p d:=by
 unfold dQ nD kY;have:=pos2 (64-d);rw[vV];omega
theorem Qk {f:av}{l':List av}{o:Option av}(h:fU f l o)(h1:∀e∈l',bF e f=false→e∈l)(h2:∀e∈l,e∈l'):fU f l' o:=by
 cases o with
 |none=>
  intro e he
  cases hl:bF e f with
  |true=>rfl
  |false=>exact absurd (h e (h1 e he hl)) (by rw[hl];simp)
 |some m=>exact⟨h2 m h.1,h.2.1,fun e he hl=>h.2.2 e (h1 e he hl) hl⟩
theorem Lj {hash:Nat}(h:bF e ⟨key,0,hash⟩=false):hash≤e.hash:=by
 simp[bF]at h;omega
def upto (es:List av)(hi:Nat):List av:=es.filter fun e=>decide (e.hash≤hi)
theorem pz {hi:Nat}:e∈upto es hi↔e∈es∧e.hash≤hi:=by unfold upto;simp
def rest (es:List av)(key:Nat):List av:=es.filter fun x=>x.key !=key
theorem zn (h:look es key=none):rest es key=es:=by
 unfold look at h;rw[List.find?_eq_none]at h
 exact List.filter_eq_self.2 fun x hx=>by simpa using h x hx
theorem WK (key:Nat)(h:es.Perm l):(rest es key).Perm (rest l key):=h.filter _
theorem zo {r:List av}(hn:(es.map av.key).Nodup)(h:es.Perm (e::r)):(rest es e.key).Perm r:=by
 have h1:=WK e.key h;have h2:=(h.map av.key).nodup_iff.1 hn;rw[List.map_cons,List.nodup_cons]at h2
 have h3:rest (e::r) e.key=r:=by
  unfold rest;rw[List.filter_cons,if_neg (by simp)]
  exact List.filter_eq_self.2 fun x hx=>by
   have:x.key≠e.key:=fun hh=>h2.1 (by rw[←hh];exact List.mem_map_of_mem hx);simpa using this
 rw[h3]at h1;exact h1
def tK (M:Nat)(es:List av)(key:Nat):Bool:=(look es key).isNone && decide (M≤es.length)
def tL (M:Nat)(es:List av)(key:Nat):Nat:=if tK M es key then 2 else 0
def JU (M:Nat)(es:List av)(e:av):List av:=if tK M es e.key then es else rest es e.key++[e]
def GL (es:List av)(key:Nat):Value:= .tuple #[.int .u64 (((look es key).getD ⟨0,0,0⟩).val:Int),.bool (look es key).isSome]
section
variable {W0 : World} {E : Nat → Addr} {H : Nat → Nat} {K M mb : Nat} {G : List Nat} {w w' : World} {a : Pool} {ids : List Nat}
theorem acY (h:gN W0 E H K M mb G w a ids)(key:Nat)(h64:H key<18446744073709551616):Calls Tryz.prog 61 #[bg mb,nU key,.int .u64 (H key:Int)] w fun y w'=>
  y= .returned (GL a.ents key)∧∃a' aK,jS W0 E H K M mb G w w' a' aK∧a'.ents.Perm (rest a.ents key):=by
 obtain⟨_,_,_,_,_,_,_,_,_,f10,_⟩:=h.facts;refine(WJ h key h64).mono ?_;rintro y w' ⟨a',aK,rfl,hw,hto⟩;obtain⟨_,_,_,_,_,_,⟨r,hr1,hr2⟩,_⟩:=hw;refine⟨rfl,a',aK,hto, ?_⟩
 cases hl:look a.ents key with
 |none=>
  rw[hl]at hr1;rw[zn hl];exact hr2.trans hr1.symm
 |some e0=>
  rw[hl]at hr1;have h3:=zo f10 hr1;rw[(nK hl).2]at h3;exact hr2.trans h3.symm
theorem acZ (h:gN W0 E H K M mb G w a ids)(key:Nat)(h64:H key<18446744073709551616):Calls Tryz.prog 62 #[bg mb,nU key,.int .u64 (H key:Int)] w fun y w'=>
  y= .returned (GL a.ents key)∧jS W0 E H K M mb G w w' a ids:=acV h key h64
end
end
end Go.Proofs.YtnfjjbpmhcbelaaGreatDoor
