/- A new core; a core's Groups; a plan's Groups. -/
import Derived.Test.YtkkibocdfijnhaaGreatDoorCoCP
import Derived.Test.YtkkibocdfijnhaaGreatDoorLaneP
import Derived.Test.YtkkibocdfijnhaaGreatDoorSqM
import Derived.Test.YtkkibocdfijnhaaGreatDoorCoBQ
namespace Go.Proofs.YtkkibocdfijnhaaGreatDoor
set_option maxRecDepth 100000
set_option maxHeartbeats 4000000
open Go.RowKit bV Go.Maps
section
variable {W0 w : World} {E : Nat → Addr} {N : Nd} {H : Nat → Nat}
def nd0:Nd:=⟨0,0,0,0,dX 1 1,.idle⟩
def mE:Pool:=⟨[nd0],0,[0],none⟩
theorem acs (H:Nat→Nat):dV H nd0:=by
 obtain⟨h1,h2,h3⟩:=Jc (n:=1) (.inl rfl)
 have hE:nd0.ents=[]:=by unfold Nd.ents nd0;rw[h2];rfl
 refine⟨h1,Nat.zero_le _,.inl rfl,by decide,Nat.zero_le _,by rw[hE];exact List.nodup_nil,fun e he=>(by rw[hE]at he;cases he),by rw[hE];exact Nat.zero_le _,rfl, ?_⟩;show load (dX 1 1)≤_;rw[h3];exact Nat.zero_le _
theorem adv:mE.ents=[]:=by
 obtain⟨h1,h2,h3⟩:=Jc (n:=1) (.inl rfl)
 have hE:nd0.ents=[]:=by unfold Nd.ents nd0;rw[h2];rfl
 unfold Pool.ents mE;simp[hE]
theorem inv0:j5 mE [] []:=by
 have hget:∀(i:Nat) (N:Nd),mE.Ns[i]?=some N→i=0∧N=nd0:=fun i N hN=>by
  have h1:i<1:=bG hN
  obtain rfl:i=0:=by omega
  exact⟨rfl,(Option.some.inj hN).symm⟩
 refine⟨⟨fun i N hN=> ?_,fun j hj=> ?_,fun i N j hN hj hp=> ?_,rfl,fun i N hN hb=> ?_,fun c hc=>by cases hc⟩,fun id=> ?_,List.nodup_nil,List.nodup_nil,fun i hi=>(by cases hi),fun i hi=>(by cases hi),fun i hi=>(by cases hi),fun i N hN _=> ?_⟩
 ·obtain⟨_,rfl⟩:=hget i N hN;exact⟨Nat.le_refl _,by decide⟩
 ·have h1:j<1:=hj
  obtain rfl:j=0:=by omega
  exact⟨nd0,rfl,rfl⟩
 ·obtain⟨rfl,rfl⟩:=hget i N hN;have h1:j<1:=hj
  obtain rfl:j=0:=by omega
  rfl
 ·obtain⟨_,rfl⟩:=hget i N hN;cases hb
 ·constructor
  ·rintro(⟨N,h1,h2⟩|⟨_,_,c,h3⟩)
   ·obtain⟨_,rfl⟩:=hget id N h1;cases h2
   ·cases h3
  ·rintro(h|h)<;>cases h
 ·obtain⟨_,rfl⟩:=hget i N hN;rfl
def oO (K M I db sb vb:Nat):Array Value:= #[nI K,nI M,nI I,.int .i64 0,.int .i64 0,.int .i64 0,.int .i64 0,.int .i64 0,.int .i64 0,.bool false,.int .i64 0,.slice (some ⟨vb,0,none⟩) 1 1,pQ db,.pointer none,pQ sb,.int .i64 0]
def st0:kS:=⟨mE,[],0,0,ze⟩
def x9 (nb db eb:Nat):dF:=⟨fun _=>nb,db,eb,0,0,0⟩
theorem aD.fresh (H:Nat→Nat){w5:World}{nb tb gb db eb sb qb rb jb vb K M I:Nat}(hE:Env W0 E w)(hK:1≤K∧K≤64)(hM:1≤M∧M≤192)(hb:Below w.heap.size w w5)(hN:bK w5 nb [nb,tb,gb] nd0)(hD:dD w5 db eb 0 [0])(hS:d9 w5 sb qb rb jb (K:Int) 0 (x9 nb db eb).val [])(hR:w5.ownsRow W0.heap.size 120 1 (.slice (some ⟨vb,0,none⟩) 1 1) 1 [pQ nb])(hlow:∀q∈[nb,tb,gb,db,eb,sb,qb,rb,jb,vb],w.heap.size≤q)(hap:∀q∈[nb,tb,gb],q∉[db,eb,sb,qb,rb,jb,vb])(acu:∀q∈[db,eb],q∉[sb,qb,rb,jb,vb])(aei:∀q∈[sb,qb,rb,jb],q≠vb):
  ∃F,aD W0 E H ⟨w5.heap.size,sb,qb,rb,jb,x9 nb db eb,.slice (some ⟨vb,0,none⟩) 1 1,K,M,I,0⟩ w [] (w5.alloc (.cells (oO K M I db sb vb) 132)) F st0:=by
 have hb6:Below w5.heap.size w5 (w5.alloc (.cells (oO K M I db sb vb) 132)):=(Below.refl _ _).alloc (Nat.le_refl _) _;have mK:=Mod.of_below hb6 [];have hz:=hb.size;have hzW:=hE.size;have hvl:=(hR.lt vb rfl).2;have hNl:=hN.fM;have hSl:=hS.lt
 have adw:∀(i:Nat) (N:Nd),[nd0][i]?=some N→i=0∧N=nd0:=fun i N hh=>by
  have h1:i<1:=bG hh
  obtain rfl:i=0:=by omega
  exact⟨rfl,(Option.some.inj hh).symm⟩
 have hfp:∀q,q∈iq (x9 nb db eb) (fun _=> [nb,tb,gb]) mE↔q∈[nb,tb,gb,db,eb]:=fun q=>by
  rw[aQ];constructor
  ·rintro(⟨i,_,hq⟩|hq)
   ·simp at hq⊢;omega
   ·unfold dF.eF x9 mE at hq;simp at hq⊢;omega
  ·intro hq;by_cases h1:q∈[nb,tb,gb]
   ·exact .inl ⟨0,by decide,h1⟩
   ·refine .inr ?_;unfold dF.eF x9 mE;simp at hq h1⊢;omega
 have adx:iZ W0 w5.heap.size H (x9 nb db eb) (w5.alloc (.cells (oO K M I db sb vb) 132)) (fun _=> [nb,tb,gb]) mE:=by
  refine⟨fun i N hi=> ?_,hD.mod mK (by simp) (by simp),fun next lf hc=>(by cases hc),fun i j hi hj hij=> ?_,fun i hi q hq hq2=> ?_,fun q hq=> ?_,fun hq=> ?_,by decide⟩
  ·obtain⟨_,rfl⟩:=adw i N hi;exact⟨hN.mod mK (by simp),acs H⟩
  ·have h1:i<1:=hi;have h2:j<1:=hj;omega
  ·unfold dF.eF x9 mE at hq2;exact hap q hq (by simp at hq2⊢;omega)
  ·have h1:=(hfp q).1 hq;have:=hlow q (by simp at h1⊢;omega);omega
  ·have h1:=(hfp _).1 hq;simp at h1;have h2:=hD.lt;have h3:=hD.Ku;have h4:=hNl nb (by simp);have h5:=hNl tb (by simp);have h6:=hNl gb (by simp);omega
 have hmet:aN (w5.alloc (.cells (oO K M I db sb vb) 132)) (cmp ⟨w5.heap.size,sb,qb,rb,jb,x9 nb db eb,.slice (some ⟨vb,0,none⟩) 1 1,K,M,I,0⟩ st0) ze:=⟨rfl,aj.new w5 132 (oO K M I db sb vb)⟩;have hsb:∀q∈[sb,qb,rb,jb],q<w5.heap.size:=hSl;refine⟨iq (x9 nb db eb) (fun _=> [nb,tb,gb]) mE,bF.start (hS.mod mK (by simp)) ⟨_,rfl,adx⟩ hmet (hE.mod ((Mod.of_below hb []).then mK) (by simp)) (fun q hq=>⟨fun hqF=> ?_, ?_, ?_⟩) (by show W0.heap.size≤w5.heap.size;omega),hR.alloc _,fun g hg hq=> ?_,by decide,hK,hM,hzW,fun q hq=> ?_,(Mod.of_below hb []).then mK⟩
 ·have hq':q∈[sb,qb,rb,jb]:=hq;have h1:=(hfp q).1 hqF;by_cases h2:q∈[nb,tb,gb]
  ·exact hap q h2 (by simp at hq'⊢;omega)
  ·exact acu q (by simp at h1 h2⊢;omega) (by simp at hq'⊢;omega)
 ·have:=hsb q hq;show q≠w5.heap.size;omega
 ·have hq':q∈[sb,qb,rb,jb]:=hq;have:=hlow q (by simp at hq'⊢;omega);omega
 ·have hg':g=vb:=by simpa using(Option.some.inj hg).symm
  subst hg'
  have hq':g=w5.heap.size∨g∈[sb,qb,rb,jb]∨g∈iq (x9 nb db eb) (fun _=> [nb,tb,gb]) mE:=by
   rcases List.mem_cons.1 hq with h3|h3
   ·exact .inl h3
   ·exact .inr (List.mem_append.1 h3)
  rcases hq' with h1|h1|h1
  ·omega
  ·exact aei g h1 rfl
  ·have h2:=(hfp g).1 h1;by_cases h3:g∈[nb,tb,gb]
   ·exact hap g h3 (by simp)
   ·exact acu g (by simp at h2 h3⊢;omega) (by simp)
 ·right;rcases bq.1 hq with h1|h1|h1|h1
  ·have h2:q=w5.heap.size:=h1;omega
  ·have h2:q∈[sb,qb,rb,jb]:=h1;exact hlow q (by simp at h2⊢;omega)
  ·have h2:=(hfp q).1 h1;exact hlow q (by simp at h2⊢;omega)
  ·have h2:q=vb:=by simpa using(Option.some.inj h1).symm
   exact hlow q (by simp[h2])
def uh (Ns:List Nd)(i:Nat):Nat:=((Ns.take i).map Nd.groups).sum
theorem LG {Ns:List Nd}{i:Nat}(h:Ns[i]?=some N):uh Ns (i+1)=uh Ns i+N.groups:=by
 unfold uh;rw[List.take_add_one,h];simp
theorem KP (h:dV H N):N.groups≤192:=by
 have h1:=h.pw.le;have bS:=h.ph;unfold kJ at bS;unfold Nd.groups
 cases hp:N.ph with
 |idle=>simp[Phase.busy];omega
 |mO k=>
  rw[hp]at bS;have:=fT h.pw bS.1;simp[Phase.busy];omega
 |iV Ts next=>
  rw[hp]at bS;have:=fT h.pw bS.1;simp[Phase.busy];omega
theorem PD {C:iE}{w0:World}{G0:List Nat}{F:List Nat}{st:kS}(h:aD W0 E H C w0 G0 w F st):Calls Tryz.prog 63 #[bg C.mb] w fun e w'=>e= .returned (nI st.a.groups)∧w=w':=by
 obtain⟨b1,b2,b3,b4⟩:=h.bounds;have HC:=qd h;obtain⟨c0,c1,c11,c12,c13,c14,c15⟩:=HC.out.cells;obtain⟨vb,cap,hv,hr⟩:=h.rowAt;rw[hv]at c11;obtain⟨Fs,hF,hp⟩:=h.aF.pool;have HR:=qd hr;have HP:=qd hp;have HB4:=qd b4;obtain⟨Ns,hNs⟩:∃Ns,Ns=st.a.Ns:=⟨_,rfl⟩;have HNs:=qd hNs;obtain⟨n,hn⟩:∃n,n=st.a.Ns.length:=⟨_,rfl⟩
 have hn32:n≤32:=by omega
 have Nf:=qd hn;rw[←hn]at c11;clear h hv hr hp hF b1 b2 b3 b4 hNs hn;unfold bg;go_in;go_wp2;go_loopw [3,5,11] (fun v3 _ v11 wr=>∃(i s:Nat),i≤n∧s≤192*i∧v11=nI i∧v3=nI s∧Hid (s=uh st.a.Ns i)∧wr=w) (fun _ _ v11 _=>n-(intOf v11).toNat)
 case atStart=>exact⟨0,0,by omega,by omega,rfl,rfl,qd rfl,rfl⟩
 case round=>
  obtain⟨i,s,hi,hs,rfl,rfl,HS,rfl⟩:=hrel;by_cases hlt:i<n
  ·have hlt':(i:Int)<(n:Int):=by omega
   have hi0:(0:Int)≤(i:Int):=by omega
   obtain⟨N,hN⟩:∃N,st.a.Ns[i]?=some N:=⟨_,List.getElem?_eq_getElem (by have:=Nf.out;omega)⟩;obtain⟨hA,hO⟩:=HP.out.kR i N hN;have cr:=HR.out i (bG hN);have HG:=qd (Vb hA hO);have hgl:=KP hO;obtain⟨gr,hgr⟩:∃gr,gr=N.groups:=⟨_,rfl⟩;rw[←hgr]at HG hgl;have eD:=qd (show s+gr=uh st.a.Ns (i+1)from by rw[LG hN,←HS.out,hgr]);unfold aK at HG;clear hN hA hO hgr;go_wp2_with fail;refine HG.out.mono ?_;rintro x w1 ⟨rfl,rfl⟩;go_wp2;go_roundw
   case rel=>exact⟨i+1,s+gr,by omega,by omega,by go_num,by first|go_num|(simp;omega),eD,by trivial⟩
   case measure=>simp[intOf];omega
  ·obtain rfl:i=n:=by omega
   have hlt':¬(i:Int)<(i:Int):=by omega
   have HF:=qd (show s=st.a.groups from by rw[HS.out,Nf.out];unfold uh Pool.groups;rw[List.take_length]);go_wp2;go_ret;rw[←HF.out];exact⟨rfl,rfl⟩
end
section
variable {W0 w : World} {E : Nat → Addr}
def NewAt (W0:World)(E:Nat→Addr)(H:Nat→Nat)(K M:Nat)(w:World)(mb:Nat)(w':World):Prop:=∃(C:iE) (F:List Nat),C.mb=mb∧C.K=K∧C.M=M∧aD W0 E H C w [] w' F st0
theorem Ov (hE:Env W0 E w)(k m i:Int)(hcf:jM k m i=false):Calls Tryz.prog 27 #[fZ k m i] w fun e w'=>e= .returned (.tuple #[.pointer none,dK E 1])∧Below w.heap.size w w':=by
 have BD:=qd hE;have hB0:=aj.new w 23 #[.int .i64 k,.int .i64 m,.int .i64 i];have hb0:=(Below.refl w.heap.size w).alloc (Nat.le_refl _) (.cells #[.int .i64 k,.int .i64 m,.int .i64 i] 23);unfold fZ;go_in;go_upto_region 1 with fail;refine aZ (F:=fun v=>aj v w.heap.size 23 #[.int .i64 k,.int .i64 m,.int .i64 i]∧Below w.heap.size w v) ⟨hB0,hb0⟩ ?_;clear hB0 hb0;rintro w1 ⟨hB1,hb1⟩;obtain⟨bx,hbx⟩:∃bx,bx=w.heap.size:=⟨_,rfl⟩;rw[←hbx]at hB1⊢;have mX:=qd hbx;have HB:=qd hB1;have xu:=qd (hE.mod (Mod.of_below hb1 []) (by simp));have xC:=qd hb1;obtain⟨k0,k1,k2⟩:=hB1.c3;have Dl:=qd (AU k m i w1 xu.out.errs);rw[hcf]at Dl;simp only[Bool.false_eq_true,if_false]at Dl;rw[fI E (by omega)]at Dl;unfold fZ at Dl;clear hB1 hb1 hbx hE;go_wp2_with fail;refine Dl.out.mono ?_;rintro y w2 ⟨rfl,hb2⟩;go_wp2;refine bodyPost_ret (v:= .tuple #[.pointer none,.iface 318 (.pointer (some (E 1)))]) (by simp[results,Tryz.results27,go_sem]) rfl ⟨?_,vo xC.out hb2⟩;rw[fI E (by omega)]
theorem Ow (H:Nat→Nat)(hE:Env W0 E w)(k m i:Int)(hcf:jM k m i=true)(K M I:Nat)(hkm:(1≤K∧K≤64)∧(1≤M∧M≤192)∧k=(K:Int)∧m=(M:Int)∧i=(I:Int)):Calls Tryz.prog 27 #[fZ k m i] w fun e w'=>∃mb,e= .returned (.tuple #[bg mb,.nilIface])∧NewAt W0 E H K M w mb w':=by
 have H8:=qd hkm;clear hkm;have BD:=qd hE;have hB0:=aj.new w 23 #[.int .i64 k,.int .i64 m,.int .i64 i];have hb0:=(Below.refl w.heap.size w).alloc (Nat.le_refl _) (.cells #[.int .i64 k,.int .i64 m,.int .i64 i] 23);unfold fZ;go_in;go_upto_region 1 with fail;refine aZ (F:=fun v=>aj v w.heap.size 23 #[.int .i64 k,.int .i64 m,.int .i64 i]∧Below w.heap.size w v) ⟨hB0,hb0⟩ ?_;clear hB0 hb0;rintro w1 ⟨hB1,hb1⟩;obtain⟨bx,hbx⟩:∃bx,bx=w.heap.size:=⟨_,rfl⟩;rw[←hbx]at hB1⊢;have mX:=qd hbx;have HB:=qd hB1;have xu:=qd (hE.mod (Mod.of_below hb1 []) (by simp));have xC:=qd hb1;obtain⟨k0,k1,k2⟩:=hB1.c3;have Dl:=qd (AU k m i w1 xu.out.errs);rw[hcf]at Dl;simp only[if_true]at Dl;unfold fZ at Dl;have hz1:=hb1.size;have af2:=HB.out.lt;clear hB1 hb1 hE hbx;go_wp2_with fail;refine Dl.out.mono ?_;rintro y w2 ⟨rfl,hb2⟩;replace HB:=qB hb2 HB;replace xC:=qd (vo xC.out hb2);replace xu:=qB hb2 xu;have hz2:=hb2.size;clear hb2 Dl k0 k1 k2;go_wp2_with fail;refine(X8 w2).mono ?_;rintro y w3 ⟨nb,tb,gb,rfl,hn1,hn2,⟨l1,l2,l3,l4,l5⟩,hb3⟩;have HN:=qd (show bK w3 nb [nb,tb,gb] nd0 from⟨tb,gb,hn1,hn2,rfl,l4,l5⟩);replace HB:=qB hb3 HB;replace xC:=qd (vo xC.out hb3);replace xu:=qB hb3 xu;have hz3:=hb3.size;have l6:=hn2.ne;have hnl:=HN.out.fM;have af3:=hnl nb (by simp);have af4:=hnl tb (by simp);have af5:=hnl gb (by simp);clear hb3 hn1 hn2 hnl;unfold aK;have HDn:=qd (show Calls Tryz.prog 51 #[.int .i64 0] w3 _ from Qv 0 (by omega) w3);unfold iL at HDn
 go_wp2_with fail;refine HDn.out.mono ?_;rintro y w4 ⟨rfl,hd4,hb4⟩;have HD:=qd (show dD w4 (w3.heap.size+1) w3.heap.size 0 [0]from hd4);replace HN:=qd (HN.out.mod (Mod.of_below hb4 []) (by simp));replace HB:=qB hb4 HB;replace xC:=qd (vo xC.out hb4);replace xu:=qB hb4 xu;have hz4:=hb4.size;have aej:=HD.out.lt;have aek:=HD.out.Ku;obtain⟨db,hdb⟩:∃db,db=w3.heap.size+1:=⟨_,rfl⟩;obtain⟨eb,BF⟩:∃eb,eb=w3.heap.size:=⟨_,rfl⟩;rw[←hdb,←BF]at HD;rw[←hdb];rw[←hdb]at aej;rw[←BF]at aek;have tq:=qd hdb;have qI:=qd BF;clear hb4 hd4 HDn hdb BF;have kk:=HB.out.c3;have eD:=qd (U4 k (by have:=H8.out;omega) (x9 nb db eb).val w4 xu.out.errs);unfold eU at eD;go_wp2_with fail;refine eD.out.mono ?_;rintro y w5 ⟨sb,qb,rb,jb,rfl,hs5,hsl,hb5⟩;have HS:=qd hs5;replace HN:=qd (HN.out.mod (Mod.of_below hb5 []) (by simp));replace HD:=qB hb5 HD;replace HB:=qB hb5 HB;replace xC:=qd (vo xC.out hb5);replace xu:=qB hb5 xu;have hz5:=hb5.size;have HSl:=qd hsl;clear kk hb5 hs5 eD hsl;have kk:=HB.out.c3;go_wp2;have hrow:=World.ownsRow_lit (base:=W0.heap.size) (e:=120) (size:=1) w5 #[pQ nb] 1 (by have:=xu.out.size;omega) (by decide) rfl;have hb6:Below w5.heap.size w5 (w5.alloc (.cells #[pQ nb] 120)):=(Below.refl _ _).alloc (Nat.le_refl _) _;have mK:=Mod.of_below hb6 [];have hsl:=HSl.out;have hd1:=tq.out;have hd2:=qI.out;have s1:=hsl sb (by simp);have s2:=hsl qb (by simp);have s3:=hsl rb (by simp);have s4:=hsl jb (by simp);have hslt:=HS.out.lt;have t1:=hslt sb (by simp);have t2:=hslt qb (by simp)
 have t3:=hslt rb (by simp);have t4:=hslt jb (by simp);have af6:=mX.out
 obtain⟨F,hF⟩:=aD.fresh H (w:=w) (w5:=w5.alloc (.cells #[pQ nb] 120)) (nb:=nb) (tb:=tb) (gb:=gb) (db:=db) (eb:=eb) (sb:=sb) (qb:=qb) (rb:=rb) (jb:=jb) (vb:=w5.heap.size) (K:=K) (M:=M) (I:=I) BD.out H8.out.1 H8.out.2.1 (vo xC.out hb6) (HN.out.mod mK (by simp)) (HD.out.mod mK (by simp) (by simp)) (H8.out.2.2.1▸HS.out.mod mK (by simp)) hrow
  (by intro q hq;simp at hq;omega) (by intro q hq;simp at hq⊢;omega) (by intro q hq;simp at hq⊢;omega) (by intro q hq;simp at hq;omega)
 have hkk:=H8.out.2.2
 have hq:oO K M I db sb w5.heap.size= #[.int .i64 k,.int .i64 m,.int .i64 i,.int .i64 0,.int .i64 0,.int .i64 0,.int .i64 0,.int .i64 0,.int .i64 0,.bool false,.int .i64 0,.slice (some ⟨w5.heap.size,0,none⟩) 1 1,pQ db,.pointer none,pQ sb,.int .i64 0]:=by
  unfold oO;rw[hkk.1,hkk.2.1,hkk.2.2]
 rw[hq]at hF;refine bodyPost_ret (v:= .tuple #[.pointer (some ⟨w5.heap.size+1,0,none⟩),.nilIface]) (by simp[results,Tryz.results27,go_sem]) rfl ⟨w5.heap.size+1,rfl,⟨_,F, ?_,rfl,rfl,hF⟩⟩;simp
end
section
variable {α : Type} {id : Nat} {W0 w : World} {E : Nat → Addr}
def af7 {α:Type}(left:α→Nat→Nat)(a:α)(ids:List Nat):Nat:=(ids.map (left a)).sum
def Ox (l:Lit→Bool)(rem:List Nat):Prop:=∀x:Int,(Lit.int .i64 x).wf=true→(l (.int .i64 x)=true↔∃id∈rem,x=(id:Int))
theorem Ox.next {l:Lit→Bool}{rem:List Nat}(h:Ox l rem)(hn:rem.Nodup):Ox (fun z=>l z && !z.sameKey (.int .i64 (id:Int))) (rem.erase id):=fun x hx=>by
 have hk:(Lit.int .i64 x).sameKey (.int .i64 (id:Int))=decide (x=(id:Int)):=by simp[Lit.sameKey]
 show(l (.int .i64 x) && !(Lit.int .i64 x).sameKey (.int .i64 (id:Int)))=true↔_;rw[hk,Bool.and_eq_true,h x hx];constructor
 ·rintro⟨⟨j,hj,rfl⟩,h2⟩
  have h3:¬(j:Int)=(id:Int):=by simpa using h2
  exact⟨j,(List.mem_erase_of_ne (fun e=>h3 (by rw[e]))).2 hj,rfl⟩
 ·rintro⟨j,hj,rfl⟩;rw[hn.mem_erase_iff]at hj;have h3:¬(j:Int)=(id:Int):=fun e=>hj.1 (by omega);exact⟨⟨j,hj.2,rfl⟩,by simpa using h3⟩
end
section
variable {g gl id k len' lo mx : Nat} {N N1 : Nd} {add del : List ay} {C : iE} {F aL : List Nat} {a' : Pool} {t : Int}
def gF (W0:World)(E:Nat→Addr)(H:Nat→Nat)(K M mb:Nat)(G:List Nat)(w:World)(a:Pool)(ids:List Nat):Prop:=
 ∃(C:iE) (F:List Nat) (len:Nat) (b:Int) (x:bP),C.mb=mb∧C.K=K∧C.M=M∧G=C.foot F∧aD W0 E H C w (C.foot F) w F ⟨a,ids,len,b,x⟩∧j5 a ids []∧len=a.ents.length∧len≤M
def jY (W0:World)(E:Nat→Addr)(H:Nat→Nat)(K M mb:Nat)(G:List Nat)(w w':World)(a':Pool)(aL:List Nat):Prop:=
 ∃G',gF W0 E H K M mb G' w' a' aL∧(∀q∈G',q∈G∨w.heap.size≤q)∧Mod G w w'
def Vw (H:Nat→Nat)(K:Nat)(a:Pool)(ids:List Nat)(del add:List ay)(a':Pool)(aL:List Nat):Prop:=
 ∃(id:Nat) (N N1:Nd),a.Ns[id]?=some N∧Wr H del add N N1∧aag H K {a with Ns:=a.Ns.set id N1} ids id a' aL∧tu del add a.ents a'.ents∧a'.ents.Perm ((a.Ns.set id N1).flatMap Nd.ents)
theorem acv {H:Nat→Nat}{a:Pool}(hN:a.Ns[id]?=some N)(hw:Wr H del add N N1):tu del add a.ents ((a.Ns.set id N1).flatMap Nd.ents):=by
 obtain⟨B,B',b1,b2⟩:=rz (N':=N1) hN;unfold Pool.ents;rw[b1,b2];exact hw.G9.wrap B B'
section
variable {W0 : World} {E : Nat → Addr} {H : Nat → Nat} {K M mb : Nat} {G : List Nat} {w w' : World} {a : Pool} {ids : List Nat}
theorem jY.of {A':dF}{v':Value}{F':List Nat}{b':Int}{x':bP}(h1:C.mb=mb)(h2:C.K=K)(h3:C.M=M)(hc:aD W0 E H {C with A:=A',v:=v'} w (C.foot F) w' F' ⟨a',aL,len',b',x'⟩)(hi:j5 a' aL [])(hl:len'=a'.ents.length)(hm:len'≤M):jY W0 E H K M mb (C.foot F) w w' a' aL:=
 ⟨({C with A:=A',v:=v'}:iE).foot F',⟨{C with A:=A',v:=v'},F',len',b',x',h1,h2,h3,rfl,hc.again,hi,hl,hm⟩,hc.sub,hc.mod⟩
theorem yR {len:Nat}{b:Int}{x:bP}(h1:C.mb=mb)(h2:C.K=K)(h3:C.M=M)(hl:len=a.ents.length)(hl':len'+del.length=len+add.length)(hm:len'≤M)(h:xY W0 E H C w (C.foot F) ⟨a,ids,len,b,x⟩ id del add len' w'):
  ∃a' aL,Vw H K a ids del add a' aL∧jY W0 E H K M mb (C.foot F) w w' a' aL:=by
 obtain⟨N,N1,x1,hN,hw,_,A',v',F',a',aL,b',x',u,k1,k2,k3,k4,_⟩:=h;have hch:=acv hN hw;have acw:tu del add a.ents a'.ents:=hch.perm (.refl _) k3;have hlen:=acw.len;exact⟨a',aL,⟨id,N,N1,hN,hw,h2▸k1,acw,k3⟩,jY.of h1 h2 h3 k4 k2 (by show len'=_;omega) hm⟩
theorem acy (h:gF W0 E H K M mb G w a ids)(e:ay)(he:jK H e):Calls Tryz.prog 57 #[bg mb,nU e.key,nU e.val,nU e.hash] w fun y w'=>
  (look a.ents e.key=none∧M≤a.ents.length∧y= .returned (dK E 2)∧jY W0 E H K M mb G w w' a ids)∨
  (∃a' aL,look a.ents e.key=none∧a.ents.length<M∧y= .returned .nilIface∧Vw H K a ids [] [e] a' aL∧jY W0 E H K M mb G w w' a' aL)∨
  (∃a' aL e0,look a.ents e.key=some e0∧y= .returned .nilIface∧Vw H K a ids [e0] [{e0 with val:=e.val}] a' aL∧jY W0 E H K M mb G w w' a' aL):=by
 obtain⟨C,F,len,b,x,h1,h2,h3,rfl,hC,hi,hl,hm⟩:=h;rw[←h1]
 cases hlk:look a.ents e.key with
 |some e0=>
  obtain⟨m1,m2⟩:=oN hlk;refine(Jr hC hi e he e0 m1 m2).mono ?_;rintro y w' ⟨rfl,id,hp⟩;obtain⟨a',aL,k1,k2⟩:=yR h1 h2 h3 hl (by simp) hm hp;exact .inr (.inr ⟨a',aL,e0,rfl,rfl,k1,h1▸k2⟩)
 |none=>
  have hno:∀y∈a.ents,y.key≠e.key:=fun y hy hk=>by
   unfold look at hlk;rw[List.find?_eq_none]at hlk;exact hlk y hy (by simpa using hk)
  by_cases hlt:len<C.M
  ·refine(Ou hC hi e he hno hlt hl).mono ?_;rintro y w' ⟨rfl,id,hp⟩;obtain⟨a',aL,k1,k2⟩:=yR h1 h2 h3 hl (by simp) (by show len+1≤M;omega) hp;exact .inr (.inl ⟨a',aL,rfl,by omega,rfl,k1,h1▸k2⟩)
  ·refine(LD hC hi e he hno hlt).mono ?_;rintro y w' ⟨rfl,x',hc,_⟩;exact .inl ⟨rfl,by omega,rfl,h1▸jY.of (A':=C.A) (v':=C.v) h1 h2 h3 hc hi hl hm⟩
theorem Vx (h:gF W0 E H K M mb G w a ids)(key:Nat)(h64:H key<18446744073709551616):Calls Tryz.prog 60 #[bg mb,nU key,.int .u64 (H key:Int)] w fun y w'=>
  ∃a' aL,y= .returned (.tuple #[.int .u64 (((look a.ents key).getD ⟨0,0,0⟩).val:Int),.bool (look a.ents key).isSome])∧Vw H K a ids (look a.ents key).toList [] a' aL∧jY W0 E H K M mb G w w' a' aL:=by
 obtain⟨C,F,len,b,x,h1,h2,h3,rfl,hC,hi,hl,hm⟩:=h;have hM:=hC.mm.2;rw[←h1]
 cases hlk:look a.ents key with
 |some e0=>
  obtain⟨m1,m2⟩:=oN hlk
  have hpos:1≤len:=by rw[hl];exact List.length_pos_of_mem m1
  refine(Pz hC hi key h64 e0 m1 m2 ⟨hpos,by show len≤192;omega⟩).mono ?_;rintro y w' ⟨rfl,id,hp⟩;obtain⟨a',aL,k1,k2⟩:=yR h1 h2 h3 hl (by show len-1+1=len+0;omega) (by show len-1≤M;omega) hp;exact⟨a',aL,rfl,k1,h1▸k2⟩
 |none=>
  have hno:∀y∈a.ents,y.key≠key:=fun y hy hk=>by
   unfold look at hlk;rw[List.find?_eq_none]at hlk;exact hlk y hy (by simpa using hk)
  refine(FP hC hi key h64 hno).mono ?_;rintro y w' ⟨rfl,id,hp⟩;obtain⟨a',aL,k1,k2⟩:=yR h1 h2 h3 hl (by simp) hm hp;exact⟨a',aL,rfl,k1,h1▸k2⟩
theorem acz (h:gF W0 E H K M mb G w a ids)(key:Nat)(h64:H key<18446744073709551616):Calls Tryz.prog 38 #[bg mb,nU key,.int .u64 (H key:Int)] w fun y w'=>
  y= .returned (.tuple #[.int .u64 (((look a.ents key).getD ⟨0,0,0⟩).val:Int),.bool (look a.ents key).isSome])∧jY W0 E H K M mb G w w' a ids:=by
 obtain⟨C,F,len,b,x,h1,h2,h3,rfl,hC,hi,hl,hm⟩:=h;rw[←h1];refine(YF hC hi key h64).mono ?_;rintro y w' ⟨rfl,x',hc,_⟩;exact⟨rfl,h1▸jY.of (A':=C.A) (v':=C.v) h1 h2 h3 hc hi hl hm⟩
theorem acA (h:gF W0 E H K M mb G w a ids):Calls Tryz.prog 61 #[bg mb] w fun e w'=>e= .returned (nI a.ents.length)∧w=w':=by
 obtain⟨C,F,len,b,x,h1,h2,h3,rfl,hC,hi,hl,hm⟩:=h;rw[←h1,←hl];exact Yw hC
theorem Vy (h:gF W0 E H K M mb G w a ids):Calls Tryz.prog 63 #[bg mb] w fun e w'=>e= .returned (nI a.groups)∧w=w':=by
 obtain⟨C,F,len,b,x,h1,h2,h3,rfl,hC,hi,hl,hm⟩:=h;rw[←h1];exact PD hC
theorem gF.mod {S:List Nat}(h:gF W0 E H K M mb G w a ids)(hm:Mod S w w')(hS:∀q∈S,q∉G∧W0.heap.size≤q):gF W0 E H K M mb G w' a ids:=by
 obtain⟨C,F,len,b,x,h1,h2,h3,rfl,hC,hi,hl,hm'⟩:=h
 have hd:∀q∈S,q≠C.mb∧q∉C.s.blocks∧q∉F∧C.v.ownBlock≠some q:=fun q hq=>by
  have:=(hS q hq).1;rw[bq]at this;simp only[not_or]at this;exact this
 refine⟨C,F,len,b,x,h1,h2,h3,rfl,⟨bF.start (hC.aF.aF.mod hm (fun q hq dN=>(hd q dN).2.1 hq)) (hC.hp.zi hC.aF.pool hm (fun q hq dN=>(hd q dN).2.2.1 hq)) (hC.aF.met.mod hm (fun hq=>(hd _ hq).1 rfl)) (hC.aF.env.mod hm (fun q hq=>(hS q hq).2)) hC.aF.apart hC.aF.qV,jJ hC.row hm (fun k hk Ib=>(hd k Ib).2.2.2 hk),hC.Ab,hC.pos,hC.kk,hC.mm, ?_,fun q hq=> .inl hq,Mod.refl _ _⟩,hi,hl,hm'⟩;have:=hC.aF.env.size;have:=hm.size;omega
theorem gF.below (h:gF W0 E H K M mb G w a ids)(hb:Below w.heap.size w w'):gF W0 E H K M mb G w' a ids:=h.mod (Mod.of_below hb []) (by simp)
theorem gF.facts (h:gF W0 E H K M mb G w a ids):j5 a ids []∧a.d≤5∧a.Ns.length≤32∧1≤a.Ns.length∧a.Ns.length≤2^a.d∧(∀(i:Nat) (N:Nd),a.Ns[i]?=some N→dV H N)∧a.ents.length≤M∧M≤192∧(1≤K∧K≤64)∧(a.ents.map ay.key).Nodup∧(∀q∈G,q<w.heap.size∧W0.heap.size≤q)∧Env W0 E w:=by
 obtain⟨C,F,len,b,x,h1,h2,h3,rfl,hC,hi,hl,hm⟩:=h;obtain⟨b1,b2,b3,b4⟩:=hC.bounds;have h4:=hC.mm;have h5:=hC.kk;exact⟨hi,b1,b2,hC.pos,hi.dir.nodes,b4,by omega,by omega,by omega,Ih hi.dir b1 b4,fun q hq=>⟨hC.fM q hq,hC.Yu q hq⟩,hC.aF.env⟩
theorem Vz {H:Nat→Nat}(h:NewAt W0 E H K M w mb w'):jY W0 E H K M mb [] w w' mE []:=by
 obtain⟨C,F,h1,h2,h3,hC⟩:=h;exact⟨_,⟨C,F,0,0,ze,h1,h2,h3,rfl,hC.again,inv0,by rw[adv];rfl,Nat.zero_le _⟩,hC.sub,hC.mod⟩
end
def GB (mx:Nat)(a:Pool):Prop:=∀(i:Nat) (N:Nd),a.Ns[i]?=some N→N.len≤mx∧N.each≤mx∧N.groups≤2*mx
theorem GB.more {mx':Nat}{a:Pool}(h:GB mx a)(hm:mx≤mx'):GB mx' a:=fun i N hN=>by
 have:=h i N hN;omega
end
section
variable {es l : List ay} {e : ay} {key : Nat}
def yS (a:Pool):List Nat:=a.Ns.map fun N=>kZ N.pfx N.au
theorem vF {h d p:Nat}:dW h d=p↔nJ p d≤h∧h≤kZ p d:=by
 unfold dW nJ kZ;have:=pos2 (64-d);rw[vB];omega
theorem PE {f:ay}{l':List ay}{o:Option ay}(h:gL f l o)(h1:∀e∈l',bM e f=false→e∈l)(h2:∀e∈l,e∈l'):gL f l' o:=by
 cases o with
 |none=>
  intro e he
  cases hl:bM e f with
  |true=>rfl
  |false=>exact absurd (h e (h1 e he hl)) (by rw[hl];simp)
 |some m=>exact⟨h2 m h.1,h.2.1,fun e he hl=>h.2.2 e (h1 e he hl) hl⟩
theorem KQ {hash:Nat}(h:bM e ⟨key,0,hash⟩=false):hash≤e.hash:=by
 simp[bM]at h;omega
def upto (es:List ay)(hi:Nat):List ay:=es.filter fun e=>decide (e.hash≤hi)
theorem nO {hi:Nat}:e∈upto es hi↔e∈es∧e.hash≤hi:=by unfold upto;simp
def rest (es:List ay)(key:Nat):List ay:=es.filter fun x=>x.key !=key
theorem Dm (h:look es key=none):rest es key=es:=by
 unfold look at h;rw[List.find?_eq_none]at h
 exact List.filter_eq_self.2 fun x hx=>by simpa using h x hx
theorem VA (key:Nat)(h:es.Perm l):(rest es key).Perm (rest l key):=h.filter _
theorem Dn {r:List ay}(hn:(es.map ay.key).Nodup)(h:es.Perm (e::r)):(rest es e.key).Perm r:=by
 have h1:=VA e.key h;have h2:=(h.map ay.key).nodup_iff.1 hn;rw[List.map_cons,List.nodup_cons]at h2
 have h3:rest (e::r) e.key=r:=by
  unfold rest;rw[List.filter_cons,if_neg (by simp)]
  exact List.filter_eq_self.2 fun x hx=>by
   have:x.key≠e.key:=fun hh=>h2.1 (by rw[←hh];exact List.mem_map_of_mem hx);simpa using this
 rw[h3]at h1;exact h1
def sw (M:Nat)(es:List ay)(key:Nat):Bool:=(look es key).isNone && decide (M≤es.length)
def uj (M:Nat)(es:List ay)(key:Nat):Nat:=if sw M es key then 2 else 0
def Js (M:Nat)(es:List ay)(e:ay):List ay:=if sw M es e.key then es else rest es e.key++[e]
def FT (es:List ay)(key:Nat):Value:= .tuple #[.int .u64 (((look es key).getD ⟨0,0,0⟩).val:Int),.bool (look es key).isSome]
section
variable {W0 : World} {E : Nat → Addr} {H : Nat → Nat} {K M mb : Nat} {G : List Nat} {w w' : World} {a : Pool} {ids : List Nat}
theorem acB (h:gF W0 E H K M mb G w a ids)(key:Nat)(h64:H key<18446744073709551616):Calls Tryz.prog 60 #[bg mb,nU key,.int .u64 (H key:Int)] w fun y w'=>
  y= .returned (FT a.ents key)∧∃a' aL,jY W0 E H K M mb G w w' a' aL∧a'.ents.Perm (rest a.ents key):=by
 obtain⟨_,_,_,_,_,_,_,_,_,f10,_⟩:=h.facts;refine(Vx h key h64).mono ?_;rintro y w' ⟨a',aL,rfl,hw,hto⟩;obtain⟨_,_,_,_,_,_,⟨r,hr1,hr2⟩,_⟩:=hw;refine⟨rfl,a',aL,hto, ?_⟩
 cases hl:look a.ents key with
 |none=>
  rw[hl]at hr1;rw[Dm hl];exact hr2.trans hr1.symm
 |some e0=>
  rw[hl]at hr1;have h3:=Dn f10 hr1;rw[(oN hl).2]at h3;exact hr2.trans h3.symm
theorem acC (h:gF W0 E H K M mb G w a ids)(key:Nat)(h64:H key<18446744073709551616):Calls Tryz.prog 38 #[bg mb,nU key,.int .u64 (H key:Int)] w fun y w'=>
  y= .returned (FT a.ents key)∧jY W0 E H K M mb G w w' a ids:=acz h key h64
end
end
end Go.Proofs.YtkkibocdfijnhaaGreatDoor
