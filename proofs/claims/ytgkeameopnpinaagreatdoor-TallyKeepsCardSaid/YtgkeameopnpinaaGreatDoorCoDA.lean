/- A new core; a core's Groups; a plan's Groups. -/
import Derived.Test.YtgkeameopnpinaaGreatDoorCoCP
import Derived.Test.YtgkeameopnpinaaGreatDoorLaneP
import Derived.Test.YtgkeameopnpinaaGreatDoorSqM
import Derived.Test.YtgkeameopnpinaaGreatDoorCoBQ
namespace Go.Proofs.YtgkeameopnpinaaGreatDoor
set_option maxRecDepth 100000
set_option maxHeartbeats 4000000
open Go.RowKit bY Go.Maps
def nd0:Nd:=⟨0,0,0,0,dN 1 1,.idle⟩
def mQ:Pool:=⟨[nd0],0,[0],none⟩
theorem aa9 (H:Nat→Nat):dO H nd0:=by
 obtain⟨h1,h2,h3⟩:=GZ (n:=1) (.inl rfl)
 have hE:nd0.ents=[]:=by unfold Nd.ents nd0;rw[h2];rfl
 refine⟨h1,Nat.zero_le _,.inl rfl,by decide,Nat.zero_le _,by rw[hE];exact List.nodup_nil,fun e he=>(by rw[hE]at he;cases he),by rw[hE];exact Nat.zero_le _,rfl, ?_⟩;show load (dN 1 1)≤_;rw[h3];exact Nat.zero_le _
theorem acn:mQ.ents=[]:=by
 obtain⟨h1,h2,h3⟩:=GZ (n:=1) (.inl rfl)
 have hE:nd0.ents=[]:=by unfold Nd.ents nd0;rw[h2];rfl
 unfold Pool.ents mQ;simp[hE]
theorem inv0:jE mQ [] []:=by
 have hget:∀(i:Nat) (N:Nd),mQ.Ns[i]?=some N→i=0∧N=nd0:=fun i N hN=>by
  have h1:i<1:=bC hN
  obtain rfl:i=0:=by omega
  exact⟨rfl,(Option.some.inj hN).symm⟩
 refine⟨⟨fun i N hN=> ?_,fun j hj=> ?_,fun i N j hN hj hp=> ?_,rfl,fun i N hN hb=> ?_,fun c hc=>by cases hc⟩,fun id=> ?_,List.nodup_nil,List.nodup_nil,fun i hi=>(by cases hi),fun i hi=>(by cases hi),fun i hi=>(by cases hi),fun i N hN _=> ?_⟩
 ·obtain⟨_,rfl⟩:=hget i N hN;exact⟨Nat.le_refl _,by decide⟩
 ·have h1:j<1:=hj
  obtain rfl:j=0:=by omega
  exact⟨nd0,rfl,rfl⟩
 ·obtain⟨rfl,rfl⟩:=hget i N hN;have h1:j<1:=hj
  obtain rfl:j=0:=by omega
  rfl
 ·obtain⟨_,rfl⟩:=hget i N hN;cases hb
 ·constructor
  ·rintro(⟨N,h1,h2⟩|⟨_,_,c,h3⟩)
   ·obtain⟨_,rfl⟩:=hget id N h1;cases h2
   ·cases h3
  ·rintro(h|h)<;>cases h
 ·obtain⟨_,rfl⟩:=hget i N hN;rfl
def nX (K M I db sb vb:Nat):Array Value:= #[nI K,nI M,nI I,.int .i64 0,.int .i64 0,.int .i64 0,.int .i64 0,.int .i64 0,.int .i64 0,.bool false,.int .i64 0,.slice (some ⟨vb,0,none⟩) 1 1,pQ db,.pointer none,pQ sb,.int .i64 0]
def st0:kM:=⟨mQ,[],0,0,x9⟩
def wK (nb db eb:Nat):dw:=⟨fun _=>nb,db,eb,0,0,0⟩
theorem aA.fresh {W0:World}{E:Nat→Addr}(H:Nat→Nat){w w5:World}{nb tb gb db eb sb qb rb jb vb K M I:Nat}(hE:Env W0 E w)(hK:1≤K∧K≤64)(hM:1≤M∧M≤192)(hb:Below w.heap.size w w5)(hN:bG w5 nb [nb,tb,gb] nd0)(hD:dh w5 db eb 0 [0])(hS:dR w5 sb qb rb jb (K:Int) 0 (wK nb db eb).val [])
  (hR:w5.ownsRow W0.heap.size 114 1 (.slice (some ⟨vb,0,none⟩) 1 1) 1 [pQ nb]) (hlow:∀q∈[nb,tb,gb,db,eb,sb,qb,rb,jb,vb],w.heap.size≤q) (hap:∀q∈[nb,tb,gb],q∉[db,eb,sb,qb,rb,jb,vb]) (abb:∀q∈[db,eb],q∉[sb,qb,rb,jb,vb]) (adh:∀q∈[sb,qb,rb,jb],q≠vb):
  ∃F,aA W0 E H ⟨w5.heap.size,sb,qb,rb,jb,wK nb db eb,.slice (some ⟨vb,0,none⟩) 1 1,K,M,I,0⟩ w [] (w5.alloc (.cells (nX K M I db sb vb) 126)) F st0:=by
 have hb6:Below w5.heap.size w5 (w5.alloc (.cells (nX K M I db sb vb) 126)):=(Below.refl _ _).alloc (Nat.le_refl _) _;have nC:=Mod.of_below hb6 [];have hz:=hb.size;have hzW:=hE.size;have hvl:=(hR.lt vb rfl).2;have hNl:=hN.fA;have hSl:=hS.lt
 have aco:∀(i:Nat) (N:Nd),[nd0][i]?=some N→i=0∧N=nd0:=fun i N hh=>by
  have h1:i<1:=bC hh
  obtain rfl:i=0:=by omega
  exact⟨rfl,(Option.some.inj hh).symm⟩
 have hfp:∀q,q∈gJ (wK nb db eb) (fun _=> [nb,tb,gb]) mQ↔q∈[nb,tb,gb,db,eb]:=fun q=>by
  rw[aP];constructor
  ·rintro(⟨i,_,hq⟩|hq)
   ·simp at hq⊢;omega
   ·unfold dw.dS wK mQ at hq;simp at hq⊢;omega
  ·intro hq;by_cases h1:q∈[nb,tb,gb]
   ·exact .inl ⟨0,by decide,h1⟩
   ·refine .inr ?_;unfold dw.dS wK mQ;simp at hq h1⊢;omega
 have acp:iK W0 w5.heap.size H (wK nb db eb) (w5.alloc (.cells (nX K M I db sb vb) 126)) (fun _=> [nb,tb,gb]) mQ:=by
  refine⟨fun i N hi=> ?_,hD.mod nC (by simp) (by simp),fun next lf hc=>(by cases hc),fun i j hi hj hij=> ?_,fun i hi q hq hq2=> ?_,fun q hq=> ?_,fun hq=> ?_,by decide⟩
  ·obtain⟨_,rfl⟩:=aco i N hi;exact⟨hN.mod nC (by simp),aa9 H⟩
  ·have h1:i<1:=hi;have h2:j<1:=hj;omega
  ·unfold dw.dS wK mQ at hq2;exact hap q hq (by simp at hq2⊢;omega)
  ·have h1:=(hfp q).1 hq;have:=hlow q (by simp at h1⊢;omega);omega
  ·have h1:=(hfp _).1 hq;simp at h1;have h2:=hD.lt;have h3:=hD.Jl;have h4:=hNl nb (by simp);have h5:=hNl tb (by simp);have h6:=hNl gb (by simp);omega
 have hmet:aM (w5.alloc (.cells (nX K M I db sb vb) 126)) (cmp ⟨w5.heap.size,sb,qb,rb,jb,wK nb db eb,.slice (some ⟨vb,0,none⟩) 1 1,K,M,I,0⟩ st0) x9:=⟨rfl,aj.new w5 126 (nX K M I db sb vb)⟩;have hsb:∀q∈[sb,qb,rb,jb],q<w5.heap.size:=hSl;refine⟨gJ (wK nb db eb) (fun _=> [nb,tb,gb]) mQ,bA.start (hS.mod nC (by simp)) ⟨_,rfl,acp⟩ hmet (hE.mod ((Mod.of_below hb []).then nC) (by simp)) (fun q hq=>⟨fun hqF=> ?_, ?_, ?_⟩) (by show W0.heap.size≤w5.heap.size;omega),hR.alloc _,fun g hg hq=> ?_,by decide,hK,hM,hzW,fun q hq=> ?_,(Mod.of_below hb []).then nC⟩
 ·have hq':q∈[sb,qb,rb,jb]:=hq;have h1:=(hfp q).1 hqF;by_cases h2:q∈[nb,tb,gb]
  ·exact hap q h2 (by simp at hq'⊢;omega)
  ·exact abb q (by simp at h1 h2⊢;omega) (by simp at hq'⊢;omega)
 ·have:=hsb q hq;show q≠w5.heap.size;omega
 ·have hq':q∈[sb,qb,rb,jb]:=hq;have:=hlow q (by simp at hq'⊢;omega);omega
 ·have hg':g=vb:=by simpa using(Option.some.inj hg).symm
  subst hg'
  have hq':g=w5.heap.size∨g∈[sb,qb,rb,jb]∨g∈gJ (wK nb db eb) (fun _=> [nb,tb,gb]) mQ:=by
   rcases List.mem_cons.1 hq with h3|h3
   ·exact .inl h3
   ·exact .inr (List.mem_append.1 h3)
  rcases hq' with h1|h1|h1
  ·omega
  ·exact adh g h1 rfl
  ·have h2:=(hfp g).1 h1;by_cases h3:g∈[nb,tb,gb]
   ·exact hap g h3 (by simp)
   ·exact abb g (by simp at h2 h3⊢;omega) (by simp)
 ·right;rcases aX.1 hq with h1|h1|h1|h1
  ·have h2:q=w5.heap.size:=h1;omega
  ·have h2:q∈[sb,qb,rb,jb]:=h1;exact hlow q (by simp at h2⊢;omega)
  ·have h2:=(hfp q).1 h1;exact hlow q (by simp at h2⊢;omega)
  ·have h2:q=vb:=by simpa using(Option.some.inj h1).symm
   exact hlow q (by simp[h2])
def adi (Ns:List Nd)(i:Nat):Nat:=((Ns.take i).map Nd.groups).sum
section
variable {W0 w : World} {E : Nat → Addr}
def NewAt (W0:World)(E:Nat→Addr)(H:Nat→Nat)(K M:Nat)(w:World)(mb:Nat)(w':World):Prop:=∃(C:iq) (F:List Nat),C.mb=mb∧C.K=K∧C.M=M∧aA W0 E H C w [] w' F st0
theorem Xq (H:Nat→Nat)(hE:Env W0 E w)(k m i:Int)(hcf:xE k m i=true)(K M I:Nat)(hkm:(1≤K∧K≤64)∧(1≤M∧M≤192)∧k=(K:Int)∧m=(M:Int)∧i=(I:Int)):Calls Tryz.prog 26 #[jS k m i] w fun e w'=>∃mb,e= .returned (.tuple #[aY mb,.nilIface])∧NewAt W0 E H K M w mb w':=by
 have F7:=qd hkm;clear hkm;have Yj:=qd hE;have hB0:=aj.new w 32 #[.int .i64 k,.int .i64 m,.int .i64 i];have hb0:=(Below.refl w.heap.size w).alloc (Nat.le_refl _) (.cells #[.int .i64 k,.int .i64 m,.int .i64 i] 32);unfold jS;go_in;go_upto_region 1 with fail;refine dA (F:=fun v=>aj v w.heap.size 32 #[.int .i64 k,.int .i64 m,.int .i64 i]∧Below w.heap.size w v) ⟨hB0,hb0⟩ ?_;clear hB0 hb0;rintro w1 ⟨hB1,hb1⟩;obtain⟨bx,hbx⟩:∃bx,bx=w.heap.size:=⟨_,rfl⟩;rw[←hbx]at hB1⊢;have mF:=qd hbx;have HB:=qd hB1;have yQ:=qd (hE.mod (Mod.of_below hb1 []) (by simp));have BD:=qd hb1;obtain⟨k0,k1,k2⟩:=hB1.c3;have Uj:=qd (FQ k m i w1 yQ.out.errs);rw[hcf]at Uj;simp only[if_true]at Uj;unfold jS at Uj;have hz1:=hb1.size;have ae8:=HB.out.lt;clear hB1 hb1 hE hbx;go_wp2_with fail;refine Uj.out.mono ?_;rintro y w2 ⟨rfl,hb2⟩;replace HB:=qB hb2 HB;replace BD:=qd (uf BD.out hb2);replace yQ:=qB hb2 yQ;have hz2:=hb2.size;clear hb2 Uj k0 k1 k2;go_wp2_with fail;refine(WI w2).mono ?_;rintro y w3 ⟨nb,tb,gb,rfl,hn1,hn2,⟨l1,l2,l3,l4,l5⟩,hb3⟩;have HN:=qd (show bG w3 nb [nb,tb,gb] nd0 from⟨tb,gb,hn1,hn2,rfl,l4,l5⟩);replace HB:=qB hb3 HB;replace BD:=qd (uf BD.out hb3);replace yQ:=qB hb3 yQ;have hz3:=hb3.size;have l6:=hn2.ne;have hnl:=HN.out.fA;have ae9:=hnl nb (by simp);have afa:=hnl tb (by simp);have afb:=hnl gb (by simp);clear hb3 hn1 hn2 hnl;unfold aK;have HDn:=qd (show Calls Tryz.prog 52 #[.int .i64 0] w3 _ from O4 0 (by omega) w3);unfold iA at HDn
 go_wp2_with fail;refine HDn.out.mono ?_;rintro y w4 ⟨rfl,hd4,hb4⟩;have HD:=qd (show dh w4 (w3.heap.size+1) w3.heap.size 0 [0]from hd4);replace HN:=qd (HN.out.mod (Mod.of_below hb4 []) (by simp));replace HB:=qB hb4 HB;replace BD:=qd (uf BD.out hb4);replace yQ:=qB hb4 yQ;have YB:=hb4.size;have adj:=HD.out.lt;have adk:=HD.out.Jl;obtain⟨db,hdb⟩:∃db,db=w3.heap.size+1:=⟨_,rfl⟩;obtain⟨eb,I8⟩:∃eb,eb=w3.heap.size:=⟨_,rfl⟩;rw[←hdb,←I8]at HD;rw[←hdb];rw[←hdb]at adj;rw[←I8]at adk;have rW:=qd hdb;have p9:=qd I8;clear hb4 hd4 HDn hdb I8;have kk:=HB.out.c3;have dU:=qd (TB k (by have:=F7.out;omega) (wK nb db eb).val w4 yQ.out.errs);unfold eu at dU;go_wp2_with fail;refine dU.out.mono ?_;rintro y w5 ⟨sb,qb,rb,jb,rfl,hs5,hsl,hb5⟩;have HS:=qd hs5;replace HN:=qd (HN.out.mod (Mod.of_below hb5 []) (by simp));replace HD:=qB hb5 HD;replace HB:=qB hb5 HB;replace BD:=qd (uf BD.out hb5);replace yQ:=qB hb5 yQ;have hz5:=hb5.size;have YO:=qd hsl;clear kk hb5 hs5 dU hsl;have kk:=HB.out.c3;go_wp2;have hrow:=World.ownsRow_lit (base:=W0.heap.size) (e:=114) (size:=1) w5 #[pQ nb] 1 (by have:=yQ.out.size;omega) (by decide) rfl;have hb6:Below w5.heap.size w5 (w5.alloc (.cells #[pQ nb] 114)):=(Below.refl _ _).alloc (Nat.le_refl _) _;have nC:=Mod.of_below hb6 [];have hsl:=YO.out;have hd1:=rW.out;have hd2:=p9.out;have s1:=hsl sb (by simp);have s2:=hsl qb (by simp);have s3:=hsl rb (by simp);have s4:=hsl jb (by simp);have hslt:=HS.out.lt;have t1:=hslt sb (by simp);have t2:=hslt qb (by simp)
 have t3:=hslt rb (by simp);have t4:=hslt jb (by simp);have afc:=mF.out
 obtain⟨F,hF⟩:=aA.fresh H (w:=w) (w5:=w5.alloc (.cells #[pQ nb] 114)) (nb:=nb) (tb:=tb) (gb:=gb) (db:=db) (eb:=eb) (sb:=sb) (qb:=qb) (rb:=rb) (jb:=jb) (vb:=w5.heap.size) (K:=K) (M:=M) (I:=I) Yj.out F7.out.1 F7.out.2.1 (uf BD.out hb6) (HN.out.mod nC (by simp)) (HD.out.mod nC (by simp) (by simp)) (F7.out.2.2.1▸HS.out.mod nC (by simp)) hrow
  (by intro q hq;simp at hq;omega) (by intro q hq;simp at hq⊢;omega) (by intro q hq;simp at hq⊢;omega) (by intro q hq;simp at hq;omega)
 have hkk:=F7.out.2.2
 have hq:nX K M I db sb w5.heap.size= #[.int .i64 k,.int .i64 m,.int .i64 i,.int .i64 0,.int .i64 0,.int .i64 0,.int .i64 0,.int .i64 0,.int .i64 0,.bool false,.int .i64 0,.slice (some ⟨w5.heap.size,0,none⟩) 1 1,pQ db,.pointer none,pQ sb,.int .i64 0]:=by
  unfold nX;rw[hkk.1,hkk.2.1,hkk.2.2]
 rw[hq]at hF;refine bodyPost_ret (v:= .tuple #[.pointer (some ⟨w5.heap.size+1,0,none⟩),.nilIface]) (by simp[results,Tryz.results26,go_sem]) rfl ⟨w5.heap.size+1,rfl,⟨_,F, ?_,rfl,rfl,hF⟩⟩;simp
end
section
variable {α : Type} {id : Nat} {W0 w : World} {E : Nat → Addr}
def afd {α:Type}(left:α→Nat→Nat)(a:α)(ids:List Nat):Nat:=(ids.map (left a)).sum
def MX (l:Lit→Bool)(rem:List Nat):Prop:=∀x:Int,(Lit.int .i64 x).wf=true→(l (.int .i64 x)=true↔∃id∈rem,x=(id:Int))
theorem MX.next {l:Lit→Bool}{rem:List Nat}(h:MX l rem)(hn:rem.Nodup):MX (fun z=>l z && !z.sameKey (.int .i64 (id:Int))) (rem.erase id):=fun x hx=>by
 have hk:(Lit.int .i64 x).sameKey (.int .i64 (id:Int))=decide (x=(id:Int)):=by simp[Lit.sameKey]
 show(l (.int .i64 x) && !(Lit.int .i64 x).sameKey (.int .i64 (id:Int)))=true↔_;rw[hk,Bool.and_eq_true,h x hx];constructor
 ·rintro⟨⟨j,hj,rfl⟩,h2⟩
  have h3:¬(j:Int)=(id:Int):=by simpa using h2
  exact⟨j,(List.mem_erase_of_ne (fun e=>h3 (by rw[e]))).2 hj,rfl⟩
 ·rintro⟨j,hj,rfl⟩;rw[hn.mem_erase_iff]at hj;have h3:¬(j:Int)=(id:Int):=fun e=>hj.1 (by omega);exact⟨⟨j,hj.2,rfl⟩,by simpa using h3⟩
end
section
variable {g gl id k len' lo mx : Nat} {N N1 : Nd} {add del : List av} {C : iq} {F aJ : List Nat} {a' : Pool} {t : Int}
def gD (W0:World)(E:Nat→Addr)(H:Nat→Nat)(K M mb:Nat)(G:List Nat)(w:World)(a:Pool)(ids:List Nat):Prop:=
 ∃(C:iq) (F:List Nat) (len:Nat) (b:Int) (x:bI),C.mb=mb∧C.K=K∧C.M=M∧G=C.foot F∧aA W0 E H C w (C.foot F) w F ⟨a,ids,len,b,x⟩∧jE a ids []∧len=a.ents.length∧len≤M
def jC (W0:World)(E:Nat→Addr)(H:Nat→Nat)(K M mb:Nat)(G:List Nat)(w w':World)(a':Pool)(aJ:List Nat):Prop:=
 ∃G',gD W0 E H K M mb G' w' a' aJ∧(∀q∈G',q∈G∨w.heap.size≤q)∧Mod G w w'
def Uk (H:Nat→Nat)(K:Nat)(a:Pool)(ids:List Nat)(del add:List av)(a':Pool)(aJ:List Nat):Prop:=
 ∃(id:Nat) (N N1:Nd),a.Ns[id]?=some N∧Wr H del add N N1∧YJ H K {a with Ns:=a.Ns.set id N1} ids id a' aJ∧rX del add a.ents a'.ents∧a'.ents.Perm ((a.Ns.set id N1).flatMap Nd.ents)
theorem abd {H:Nat→Nat}{a:Pool}(hN:a.Ns[id]?=some N)(hw:Wr H del add N N1):rX del add a.ents ((a.Ns.set id N1).flatMap Nd.ents):=by
 obtain⟨B,B',b1,b2⟩:=qC (N':=N1) hN;unfold Pool.ents;rw[b1,b2];exact hw.FL.wrap B B'
section
variable {W0 : World} {E : Nat → Addr} {H : Nat → Nat} {K M mb : Nat} {G : List Nat} {w w' : World} {a : Pool} {ids : List Nat}
theorem jC.of {A':dw}{v':Value}{F':List Nat}{b':Int}{x':bI}(h1:C.mb=mb)(h2:C.K=K)(h3:C.M=M)(hc:aA W0 E H {C with A:=A',v:=v'} w (C.foot F) w' F' ⟨a',aJ,len',b',x'⟩)(hi:jE a' aJ [])(hl:len'=a'.ents.length)(hm:len'≤M):jC W0 E H K M mb (C.foot F) w w' a' aJ:=
 ⟨({C with A:=A',v:=v'}:iq).foot F',⟨{C with A:=A',v:=v'},F',len',b',x',h1,h2,h3,rfl,hc.again,hi,hl,hm⟩,hc.sub,hc.mod⟩
theorem xK {len:Nat}{b:Int}{x:bI}(h1:C.mb=mb)(h2:C.K=K)(h3:C.M=M)(hl:len=a.ents.length)(hl':len'+del.length=len+add.length)(hm:len'≤M)(h:wJ W0 E H C w (C.foot F) ⟨a,ids,len,b,x⟩ id del add len' w'):
  ∃a' aJ,Uk H K a ids del add a' aJ∧jC W0 E H K M mb (C.foot F) w w' a' aJ:=by
 obtain⟨N,N1,x1,hN,hw,_,A',v',F',a',aJ,b',x',u,k1,k2,k3,k4,_⟩:=h;have hch:=abd hN hw;have abe:rX del add a.ents a'.ents:=hch.perm (.refl _) k3;have hlen:=abe.len;exact⟨a',aJ,⟨id,N,N1,hN,hw,h2▸k1,abe,k3⟩,jC.of h1 h2 h3 k4 k2 (by show len'=_;omega) hm⟩
theorem abf (h:gD W0 E H K M mb G w a ids)(e:av)(he:jW H e):Calls Tryz.prog 59 #[aY mb,nU e.key,nU e.val,nU e.hash] w fun y w'=>
  (look a.ents e.key=none∧M≤a.ents.length∧y= .returned (iQ E 2)∧jC W0 E H K M mb G w w' a ids)∨
  (∃a' aJ,look a.ents e.key=none∧a.ents.length<M∧y= .returned .nilIface∧Uk H K a ids [] [e] a' aJ∧jC W0 E H K M mb G w w' a' aJ)∨
  (∃a' aJ e0,look a.ents e.key=some e0∧y= .returned .nilIface∧Uk H K a ids [e0] [{e0 with val:=e.val}] a' aJ∧jC W0 E H K M mb G w w' a' aJ):=by
 obtain⟨C,F,len,b,x,h1,h2,h3,rfl,hC,hi,hl,hm⟩:=h;rw[←h1]
 cases hlk:look a.ents e.key with
 |some e0=>
  obtain⟨m1,m2⟩:=mM hlk;refine(Hu hC hi e he e0 m1 m2).mono ?_;rintro y w' ⟨rfl,id,hp⟩;obtain⟨a',aJ,k1,k2⟩:=xK h1 h2 h3 hl (by simp) hm hp;exact .inr (.inr ⟨a',aJ,e0,rfl,rfl,k1,h1▸k2⟩)
 |none=>
  have hno:∀y∈a.ents,y.key≠e.key:=fun y hy hk=>by
   unfold look at hlk;rw[List.find?_eq_none]at hlk;exact hlk y hy (by simpa using hk)
  by_cases hlt:len<C.M
  ·refine(MV hC hi e he hno hlt hl).mono ?_;rintro y w' ⟨rfl,id,hp⟩;obtain⟨a',aJ,k1,k2⟩:=xK h1 h2 h3 hl (by simp) (by show len+1≤M;omega) hp;exact .inr (.inl ⟨a',aJ,rfl,by omega,rfl,k1,h1▸k2⟩)
  ·refine(Ku hC hi e he hno hlt).mono ?_;rintro y w' ⟨rfl,x',hc,_⟩;exact .inl ⟨rfl,by omega,rfl,h1▸jC.of (A':=C.A) (v':=C.v) h1 h2 h3 hc hi hl hm⟩
theorem Ul (h:gD W0 E H K M mb G w a ids)(key:Nat)(h64:H key<18446744073709551616):Calls Tryz.prog 56 #[aY mb,nU key,.int .u64 (H key:Int)] w fun y w'=>
  ∃a' aJ,y= .returned (.tuple #[.int .u64 (((look a.ents key).getD ⟨0,0,0⟩).val:Int),.bool (look a.ents key).isSome])∧Uk H K a ids (look a.ents key).toList [] a' aJ∧jC W0 E H K M mb G w w' a' aJ:=by
 obtain⟨C,F,len,b,x,h1,h2,h3,rfl,hC,hi,hl,hm⟩:=h;have hM:=hC.mm.2;rw[←h1]
 cases hlk:look a.ents key with
 |some e0=>
  obtain⟨m1,m2⟩:=mM hlk
  have hpos:1≤len:=by rw[hl];exact List.length_pos_of_mem m1
  refine(N8 hC hi key h64 e0 m1 m2 ⟨hpos,by show len≤192;omega⟩).mono ?_;rintro y w' ⟨rfl,id,hp⟩;obtain⟨a',aJ,k1,k2⟩:=xK h1 h2 h3 hl (by show len-1+1=len+0;omega) (by show len-1≤M;omega) hp;exact⟨a',aJ,rfl,k1,h1▸k2⟩
 |none=>
  have hno:∀y∈a.ents,y.key≠key:=fun y hy hk=>by
   unfold look at hlk;rw[List.find?_eq_none]at hlk;exact hlk y hy (by simpa using hk)
  refine(Ez hC hi key h64 hno).mono ?_;rintro y w' ⟨rfl,id,hp⟩;obtain⟨a',aJ,k1,k2⟩:=xK h1 h2 h3 hl (by simp) hm hp;exact⟨a',aJ,rfl,k1,h1▸k2⟩
theorem abg (h:gD W0 E H K M mb G w a ids)(key:Nat)(h64:H key<18446744073709551616):Calls Tryz.prog 45 #[aY mb,nU key,.int .u64 (H key:Int)] w fun y w'=>
  y= .returned (.tuple #[.int .u64 (((look a.ents key).getD ⟨0,0,0⟩).val:Int),.bool (look a.ents key).isSome])∧jC W0 E H K M mb G w w' a ids:=by
 obtain⟨C,F,len,b,x,h1,h2,h3,rfl,hC,hi,hl,hm⟩:=h;rw[←h1];refine(Xp hC hi key h64).mono ?_;rintro y w' ⟨rfl,x',hc,_⟩;exact⟨rfl,h1▸jC.of (A':=C.A) (v':=C.v) h1 h2 h3 hc hi hl hm⟩
theorem abh (h:gD W0 E H K M mb G w a ids):Calls Tryz.prog 61 #[aY mb] w fun e w'=>e= .returned (nI a.ents.length)∧w=w':=by
 obtain⟨C,F,len,b,x,h1,h2,h3,rfl,hC,hi,hl,hm⟩:=h;rw[←h1,←hl];exact Xg hC
theorem gD.mod {S:List Nat}(h:gD W0 E H K M mb G w a ids)(hm:Mod S w w')(hS:∀q∈S,q∉G∧W0.heap.size≤q):gD W0 E H K M mb G w' a ids:=by
 obtain⟨C,F,len,b,x,h1,h2,h3,rfl,hC,hi,hl,hm'⟩:=h
 have hd:∀q∈S,q≠C.mb∧q∉C.s.blocks∧q∉F∧C.v.ownBlock≠some q:=fun q hq=>by
  have:=(hS q hq).1;rw[aX]at this;simp only[not_or]at this;exact this
 refine⟨C,F,len,b,x,h1,h2,h3,rfl,⟨bA.start (hC.aC.aC.mod hm (fun q hq dH=>(hd q dH).2.1 hq)) (hC.hp.yj hC.aC.pool hm (fun q hq dH=>(hd q dH).2.2.1 hq)) (hC.aC.met.mod hm (fun hq=>(hd _ hq).1 rfl)) (hC.aC.env.mod hm (fun q hq=>(hS q hq).2)) hC.aC.apart hC.aC.qx,jl hC.row hm (fun k hk Gb=>(hd k Gb).2.2.2 hk),hC.ze,hC.pos,hC.kk,hC.mm, ?_,fun q hq=> .inl hq,Mod.refl _ _⟩,hi,hl,hm'⟩;have:=hC.aC.env.size;have:=hm.size;omega
theorem gD.below (h:gD W0 E H K M mb G w a ids)(hb:Below w.heap.size w w'):gD W0 E H K M mb G w' a ids:=h.mod (Mod.of_below hb []) (by simp)
theorem gD.facts (h:gD W0 E H K M mb G w a ids):jE a ids []∧a.d≤5∧a.Ns.length≤32∧1≤a.Ns.length∧a.Ns.length≤2^a.d∧(∀(i:Nat) (N:Nd),a.Ns[i]?=some N→dO H N)∧a.ents.length≤M∧M≤192∧(1≤K∧K≤64)∧(a.ents.map av.key).Nodup∧(∀q∈G,q<w.heap.size∧W0.heap.size≤q)∧Env W0 E w:=by
 obtain⟨C,F,len,b,x,h1,h2,h3,rfl,hC,hi,hl,hm⟩:=h;obtain⟨b1,b2,b3,b4⟩:=hC.bounds;have h4:=hC.mm;have h5:=hC.kk;exact⟨hi,b1,b2,hC.pos,hi.dir.nodes,b4,by omega,by omega,by omega,Gg hi.dir b1 b4,fun q hq=>⟨hC.fA q hq,hC.Xe q hq⟩,hC.aC.env⟩
theorem abj {H:Nat→Nat}(h:NewAt W0 E H K M w mb w'):jC W0 E H K M mb [] w w' mQ []:=by
 obtain⟨C,F,h1,h2,h3,hC⟩:=h;exact⟨_,⟨C,F,0,0,x9,h1,h2,h3,rfl,hC.again,inv0,by rw[acn];rfl,Nat.zero_le _⟩,hC.sub,hC.mod⟩
end
def GB (mx:Nat)(a:Pool):Prop:=∀(i:Nat) (N:Nd),a.Ns[i]?=some N→N.len≤mx∧N.each≤mx∧N.groups≤2*mx
theorem GB.more {mx':Nat}{a:Pool}(h:GB mx a)(hm:mx≤mx'):GB mx' a:=fun i N hN=>by
 have:=h i N hN;omega
end
section
variable {es l : List av} {e : av} {key : Nat}
def jF (a:Pool):List Nat:=a.Ns.map fun N=>kE N.pfx N.au
theorem uo {h d p:Nat}:dM h d=p↔mH p d≤h∧h≤kE p d:=by
 unfold dM mH kE;have:=pos2 (64-d);rw[uh];omega
theorem N9 {f:av}{l':List av}{o:Option av}(h:fK f l o)(h1:∀e∈l',bB e f=false→e∈l)(h2:∀e∈l,e∈l'):fK f l' o:=by
 cases o with
 |none=>
  intro e he
  cases hl:bB e f with
  |true=>rfl
  |false=>exact absurd (h e (h1 e he hl)) (by rw[hl];simp)
 |some m=>exact⟨h2 m h.1,h.2.1,fun e he hl=>h.2.2 e (h1 e he hl) hl⟩
theorem JE {hash:Nat}(h:bB e ⟨key,0,hash⟩=false):hash≤e.hash:=by
 simp[bB]at h;omega
def upto (es:List av)(hi:Nat):List av:=es.filter fun e=>decide (e.hash≤hi)
theorem nY {hi:Nat}:e∈upto es hi↔e∈es∧e.hash≤hi:=by unfold upto;simp
def rest (es:List av)(key:Nat):List av:=es.filter fun x=>x.key !=key
theorem Ck (h:look es key=none):rest es key=es:=by
 unfold look at h;rw[List.find?_eq_none]at h
 exact List.filter_eq_self.2 fun x hx=>by simpa using h x hx
theorem Um (key:Nat)(h:es.Perm l):(rest es key).Perm (rest l key):=h.filter _
theorem Cm {r:List av}(hn:(es.map av.key).Nodup)(h:es.Perm (e::r)):(rest es e.key).Perm r:=by
 have h1:=Um e.key h;have h2:=(h.map av.key).nodup_iff.1 hn;rw[List.map_cons,List.nodup_cons]at h2
 have h3:rest (e::r) e.key=r:=by
  unfold rest;rw[List.filter_cons,if_neg (by simp)]
  exact List.filter_eq_self.2 fun x hx=>by
   have:x.key≠e.key:=fun hh=>h2.1 (by rw[←hh];exact List.mem_map_of_mem hx);simpa using this
 rw[h3]at h1;exact h1
def rF (M:Nat)(es:List av)(key:Nat):Bool:=(look es key).isNone && decide (M≤es.length)
def sM (M:Nat)(es:List av)(key:Nat):Nat:=if rF M es key then 2 else 0
def Hw (M:Nat)(es:List av)(e:av):List av:=if rF M es e.key then es else rest es e.key++[e]
def EC (es:List av)(key:Nat):Value:= .tuple #[.int .u64 (((look es key).getD ⟨0,0,0⟩).val:Int),.bool (look es key).isSome]
section
variable {W0 : World} {E : Nat → Addr} {H : Nat → Nat} {K M mb : Nat} {G : List Nat} {w w' : World} {a : Pool} {ids : List Nat}
theorem abk (h:gD W0 E H K M mb G w a ids)(key:Nat)(h64:H key<18446744073709551616):Calls Tryz.prog 56 #[aY mb,nU key,.int .u64 (H key:Int)] w fun y w'=>
  y= .returned (EC a.ents key)∧∃a' aJ,jC W0 E H K M mb G w w' a' aJ∧a'.ents.Perm (rest a.ents key):=by
 obtain⟨_,_,_,_,_,_,_,_,_,f10,_⟩:=h.facts;refine(Ul h key h64).mono ?_;rintro y w' ⟨a',aJ,rfl,hw,hto⟩;obtain⟨_,_,_,_,_,_,⟨r,hr1,hr2⟩,_⟩:=hw;refine⟨rfl,a',aJ,hto, ?_⟩
 cases hl:look a.ents key with
 |none=>
  rw[hl]at hr1;rw[Ck hl];exact hr2.trans hr1.symm
 |some e0=>
  rw[hl]at hr1;have h3:=Cm f10 hr1;rw[(mM hl).2]at h3;exact hr2.trans h3.symm
theorem abl (h:gD W0 E H K M mb G w a ids)(key:Nat)(h64:H key<18446744073709551616):Calls Tryz.prog 45 #[aY mb,nU key,.int .u64 (H key:Int)] w fun y w'=>
  y= .returned (EC a.ents key)∧jC W0 E H K M mb G w w' a ids:=abg h key h64
end
end
end Go.Proofs.YtgkeameopnpinaaGreatDoor
