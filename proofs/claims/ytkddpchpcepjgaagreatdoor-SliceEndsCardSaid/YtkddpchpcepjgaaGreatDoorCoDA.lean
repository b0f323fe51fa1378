/- A new core; a core's Groups; a plan's Groups. -/
import Derived.Test.YtkddpchpcepjgaaGreatDoorCoCP
namespace Go.Proofs.YtkddpchpcepjgaaGreatDoor
set_option maxRecDepth 100000
set_option maxHeartbeats 4000000
open Go.RowKit cu Go.Maps
theorem xf:type_of% @List.filter_cons:=@List.filter_cons
section
variable {W0 w : World} {E : Nat -> Addr} {N : Nd} {H : Nat -> Nat}
def nd0:Nd:=⟨0,0,0,0,eB 1 1,.idle⟩
def nJ:Pool:=⟨[nd0],0,[0],none⟩
theorem aeD (H:Nat->Nat):dY H nd0:=by
 obtain⟨h1,h2,h3⟩:=KI (n:=1) (.inl rfl)
 have hE:nd0.ents=[]:=by unfold Nd.ents nd0;rw[h2];rfl
 refine⟨h1,Q4 _,.inl rfl,by decide,Q4 _,by rw[hE];exact List.nodup_nil,λe he=>(by rw[hE]at he;cases he),by rw[hE];exact Q4 _,rfl, ?_⟩;show load (eB 1 1)<=_;rw[h3];exact Q4 _
theorem afM:nJ.ents=[]:=by
 obtain⟨h1,h2,h3⟩:=KI (n:=1) (.inl rfl)
 have hE:nd0.ents=[]:=by unfold Nd.ents nd0;rw[h2];rfl
 unfold Pool.ents nJ;simp[hE]
theorem inv0:kX nJ [] []:=by
 have hget:∀(i:Nat) (N:Nd),nJ.Ns[i]?=some N->i=0/\N=nd0:=λi N hN=>by
  have h1:i<1:=bJ hN
  obtain rfl:i=0:=by omega
  exact⟨rfl,(QP hN).symm⟩
 refine⟨⟨λi N hN=> ?_,λj hj=> ?_,λi N j hN hj hp=> ?_,rfl,λi N hN hb=> ?_,λc hc=>by cases hc⟩,λid=> ?_,List.nodup_nil,List.nodup_nil,λi hi=>(by cases hi),λi hi=>(by cases hi),λi hi=>(by cases hi),λi N hN _=> ?_⟩
 ·obtain⟨_,rfl⟩:=hget i N hN;exact⟨zb _,by decide⟩
 ·have h1:j<1:=hj
  obtain rfl:j=0:=by omega
  exact⟨nd0,rfl,rfl⟩
 ·obtain⟨rfl,rfl⟩:=hget i N hN;have h1:j<1:=hj
  obtain rfl:j=0:=by omega
  rfl
 ·obtain⟨_,rfl⟩:=hget i N hN;cases hb
 ·constructor
  ·rintro(⟨N,h1,h2⟩|⟨_,_,c,h3⟩)
   ·obtain⟨_,rfl⟩:=hget id N h1;cases h2
   ·cases h3
  ·rintro(h|h)<;>cases h
 ·obtain⟨_,rfl⟩:=hget i N hN;rfl
def ql (K M I db sb vb:Nat):Array Value:= #[nI K,nI M,nI I,.int .i64 0,.int .i64 0,.int .i64 0,.int .i64 0,.int .i64 0,.int .i64 0,.bool false,.int .i64 0,.slice (some ⟨vb,0,none⟩) 1 1,pQ db,.pointer none,pQ sb,.int .i64 0]
def st0:lX:=⟨nJ,[],0,0,Ap⟩
def zw (nb db eb:Nat):dI:=⟨λ_=>nb,db,eb,0,0,0⟩
theorem aD.fresh (H:Nat->Nat){w5:World}{nb tb gb db eb sb qb rb jb vb K M I:Nat}(hE:Env W0 E w)(hK:1<=K/\K<=64)(hM:1<=M/\M<=192)(hb:Below w.heap.size w w5)(hN:bM w5 nb [nb,tb,gb] nd0)(hD:dH w5 db eb 0 [0])(hS:eH w5 sb qb rb jb (K:Int) 0 (zw nb db eb).val [])(hR:w5.ownsRow W0.heap.size 126 1 (.slice (some ⟨vb,0,none⟩) 1 1) 1 [pQ nb])(hlow:∀q∈[nb,tb,gb,db,eb,sb,qb,rb,jb,vb],w.heap.size<=q)(hap:∀q∈[nb,tb,gb],q∉[db,eb,sb,qb,rb,jb,vb])(aeE:∀q∈[db,eb],q∉[sb,qb,rb,jb,vb])(agA:∀q∈[sb,qb,rb,jb],q≠vb):
  ∃F,aD W0 E H ⟨w5.heap.size,sb,qb,rb,jb,zw nb db eb,.slice (some ⟨vb,0,none⟩) 1 1,K,M,I,0⟩ w [] (w5.alloc (.cells (ql K M I db sb vb) 138)) F st0:=by
 have hb6:Below w5.heap.size w5 (w5.alloc (.cells (ql K M I db sb vb) 138)):=(Below.refl _ _).alloc (zb _) _;have nP:=Mod.of_below hb6 [];have hz:=hb.size;have hzW:=hE.size;have hvl:=(hR.lt vb rfl).2;have hNl:=hN.fC;have hSl:=hS.lt
 have afN:∀(i:Nat) (N:Nd),[nd0][i]?=some N->i=0/\N=nd0:=λi N hh=>by
  have h1:i<1:=bJ hh
  obtain rfl:i=0:=by omega
  exact⟨rfl,(QP hh).symm⟩
 have hfp:∀q,q∈iM (zw nb db eb) (λ_=> [nb,tb,gb]) nJ↔q∈[nb,tb,gb,db,eb]:=λq=>by
  rw[aR];constructor
  ·rintro(⟨i,_,hq⟩|hq)
   ·simp at hq|-;omega
   ·unfold dI.eP zw nJ at hq;simp at hq|-;omega
  ·intro hq;by_cases h1:q∈[nb,tb,gb]
   ·exact .inl ⟨0,by decide,h1⟩
   ·refine .inr ?_;unfold dI.eP zw nJ;simp at hq h1|-;omega
 have afO:jD W0 w5.heap.size H (zw nb db eb) (w5.alloc (.cells (ql K M I db sb vb) 138)) (λ_=> [nb,tb,gb]) nJ:=by
  refine⟨λi N hi=> ?_,hD.mod nP (by simp) (by simp),λnext lf hc=>(by cases hc),λi j hi hj hij=> ?_,λi hi q hq hq2=> ?_,λq hq=> ?_,λhq=> ?_,by decide⟩
  ·obtain⟨_,rfl⟩:=afN i N hi;exact⟨hN.mod nP (by simp),aeD H⟩
  ·have h1:i<1:=hi;have h2:j<1:=hj;omega
  ·unfold dI.eP zw nJ at hq2;exact hap q hq (by simp at hq2|-;omega)
  ·have h1:=(hfp q).1 hq;have:=hlow q (by simp at h1|-;omega);omega
  ·have h1:=(hfp _).1 hq;simp at h1;have h2:=hD.lt;have h3:=hD.Ms;have h4:=hNl nb (by simp);have h5:=hNl tb (by simp);have h6:=hNl gb (by simp);omega
 have hmet:aN (w5.alloc (.cells (ql K M I db sb vb) 138)) (cmp ⟨w5.heap.size,sb,qb,rb,jb,zw nb db eb,.slice (some ⟨vb,0,none⟩) 1 1,K,M,I,0⟩ st0) Ap:=⟨rfl,aj.new w5 138 (ql K M I db sb vb)⟩;have hsb:∀q∈[sb,qb,rb,jb],q<w5.heap.size:=hSl;refine⟨iM (zw nb db eb) (λ_=> [nb,tb,gb]) nJ,bH.start (hS.mod nP (by simp)) ⟨_,rfl,afO⟩ hmet (hE.mod ((Mod.of_below hb []).then nP) (by simp)) (λq hq=>⟨λhqF=> ?_, ?_, ?_⟩) (by show W0.heap.size<=w5.heap.size;omega),hR.alloc _,λg hg hq=> ?_,by decide,hK,hM,hzW,λq hq=> ?_,(Mod.of_below hb []).then nP⟩
 ·have hq':q∈[sb,qb,rb,jb]:=hq;have h1:=(hfp q).1 hqF;by_cases h2:q∈[nb,tb,gb]
  ·exact hap q h2 (by simp at hq'|-;omega)
  ·exact aeE q (by simp at h1 h2|-;omega) (by simp at hq'|-;omega)
 ·have:=hsb q hq;show q≠w5.heap.size;omega
 ·have hq':q∈[sb,qb,rb,jb]:=hq;have:=hlow q (by simp at hq'|-;omega);omega
 ·have hg':g=vb:=by simpa using(QP hg).symm
  subst hg'
  have hq':g=w5.heap.size\/g∈[sb,qb,rb,jb]\/g∈iM (zw nb db eb) (λ_=> [nb,tb,gb]) nJ:=by
   rcases zt.1 hq with h3|h3
   ·exact .inl h3
   ·exact .inr (Zs.1 h3)
  rcases hq' with h1|h1|h1
  ·omega
  ·exact agA g h1 rfl
  ·have h2:=(hfp g).1 h1;by_cases h3:g∈[nb,tb,gb]
   ·exact hap g h3 (by simp)
   ·exact aeE g (by simp at h2 h3|-;omega) (by simp)
 ·right;rcases bB.1 hq with h1|h1|h1|h1
  ·have h2:q=w5.heap.size:=h1;omega
  ·have h2:q∈[sb,qb,rb,jb]:=h1;exact hlow q (by simp at h2|-;omega)
  ·have h2:=(hfp q).1 h1;exact hlow q (by simp at h2|-;omega)
  ·have h2:q=vb:=by simpa using(QP h1).symm
   exact hlow q (by simp[h2])
def vF (Ns:List Nd)(i:Nat):Nat:=((Ns.take i).map Nd.groups).sum
theorem NY {Ns:List Nd}{i:Nat}(h:Ns[i]?=some N):vF Ns (i+1)=vF Ns i+N.groups:=by
 unfold vF;rw[J0,h];simp
theorem MQ (h:dY H N):N.groups<=192:=by
 have h1:=h.pw.le;have bV:=h.ph;unfold lN at bV;unfold Nd.groups
 cases hp:N.ph with
 |idle=>simp[Phase.busy];omega
 |nR k=>
  rw[hp]at bV;have:=gF h.pw bV.1;simp[Phase.busy];omega
 |jq Ts next=>
  rw[hp]at bV;have:=gF h.pw bV.1;simp[Phase.busy];omega
theorem RU {C:iW}{w0:World}{G0:List Nat}{F:List Nat}{st:lX}(h:aD W0 E H C w0 G0 w F st):Calls Tryz.prog 74 #[bg C.mb] w λe w'=>e= .returned (nI st.a.groups)/\w=w':=by
 obtain⟨b1,b2,b3,b4⟩:=h.bounds;have HC:=qd h;obtain⟨c0,c1,c11,c12,c13,c14,c15⟩:=HC.o.cells;obtain⟨vb,cap,hv,hr⟩:=h.rowAt;rw[hv]at c11;obtain⟨Fs,hF,hp⟩:=h.aF.pool;have HR:=qd hr;have HP:=qd hp;have JV:=qd b4;obtain⟨Ns,hNs⟩:∃Ns,Ns=st.a.Ns:=⟨_,rfl⟩;have HNs:=qd hNs;obtain⟨n,hn⟩:∃n,n=st.a.Ns.length:=⟨_,rfl⟩
 have hn32:n<=32:=by omega
 have Ph:=qd hn;rw[<-hn]at c11;clear h hv hr hp hF b1 b2 b3 b4 hNs hn;unfold bg;go_in;go_wp2;go_loopw [3,5,11] (λv3 _ v11 wr=>∃(i s:Nat),i<=n/\s<=192*i/\v11=nI i/\v3=nI s/\Hqq (s=vF st.a.Ns i)/\wr=w) (λ_ _ v11 _=>n-(intOf v11).toNat)
 case atStart=>exact⟨0,0,by omega,by omega,rfl,rfl,qd rfl,rfl⟩
 case round=>
  obtain⟨i,s,hi,hs,rfl,rfl,HS,rfl⟩:=hrel;by_cases hlt:i<n
  ·have hlt':(i:Int)<(n:Int):=by omega
   have hi0:(0:Int)<=(i:Int):=by omega
   obtain⟨N,hN⟩:∃N,st.a.Ns[i]?=some N:=⟨_,zg (by have:=Ph.o;omega)⟩;obtain⟨hA,hO⟩:=HP.o.lW i N hN;have cr:=HR.o i (bJ hN);have HG:=qd (XP hA hO);have hgl:=MQ hO;obtain⟨gr,hgr⟩:∃gr,gr=N.groups:=⟨_,rfl⟩;rw[<-hgr]at HG hgl;have eO:=qd (show s+gr=vF st.a.Ns (i+1)from by rw[NY hN,<-HS.o,hgr]);unfold aK at HG;clear hN hA hO hgr;go_wp2_with fail;refine HG.o.mono ?_;rintro x w1 ⟨rfl,rfl⟩;go_wp2;go_roundw
   case rel=>exact⟨i+1,s+gr,by omega,by omega,by go_num,by first|go_num|(simp;omega),eO,by trivial⟩
   case measure=>simp[intOf];omega
  ·obtain rfl:i=n:=by omega
   have hlt':¬(i:Int)<(i:Int):=by omega
   have HF:=qd (show s=st.a.groups from by rw[HS.o,Ph.o];unfold vF Pool.groups;rw[yr]);go_wp2;go_ret;rw[<-HF.o];exact⟨rfl,rfl⟩
end
section
variable {W0 w : World} {E : Nat -> Addr}
def NewAt (W0:World)(E:Nat->Addr)(H:Nat->Nat)(K M:Nat)(w:World)(mb:Nat)(w':World):Prop:=∃(C:iW) (F:List Nat),C.mb=mb/\C.K=K/\C.M=M/\aD W0 E H C w [] w' F st0
theorem Qx (hE:Env W0 E w)(k m i:Int)(hcf:jB k m i=false):Calls Tryz.prog 36 #[eX k m i] w λe w'=>e= .returned (.tuple #[.pointer none,eT E 1])/\Below w.heap.size w w':=by
 have yO:=qd hE;have hB0:=aj.new w 23 #[.int .i64 k,.int .i64 m,.int .i64 i];have hb0:=(Below.refl w.heap.size w).alloc (zb _) (.cells #[.int .i64 k,.int .i64 m,.int .i64 i] 23);unfold eX;go_in;go_upto_region 1 with fail;refine aY (F:=λv=>aj v w.heap.size 23 #[.int .i64 k,.int .i64 m,.int .i64 i]/\Below w.heap.size w v) ⟨hB0,hb0⟩ ?_;clear hB0 hb0;rintro w1 ⟨hB1,hb1⟩;obtain⟨bx,hbx⟩:∃bx,bx=w.heap.size:=⟨_,rfl⟩;rw[<-hbx]at hB1|-;have oh:=qd hbx;have HB:=qd hB1;have uN:=qd (hE.mod (Mod.of_below hb1 []) (by simp));have yQ:=qd hb1;obtain⟨k0,k1,k2⟩:=hB1.c3;have EJ:=qd (xU k m i w1 uN.o.errs);rw[hcf]at EJ;simp only[yd,xx]at EJ;rw[gH E (by omega)]at EJ;unfold eX at EJ;clear hB1 hb1 hbx hE;go_wp2_with fail;refine EJ.o.mono ?_;rintro y w2 ⟨rfl,hb2⟩;go_wp2;refine bodyPost_ret (v:= .tuple #[.pointer none,.iface 333 (.pointer (some (E 1)))]) (by simp[results,Tryz.results36,go_sem]) rfl ⟨?_,wP yQ.o hb2⟩;rw[gH E (by omega)]
theorem Qy (H:Nat->Nat)(hE:Env W0 E w)(k m i:Int)(hcf:jB k m i=true)(K M I:Nat)(hkm:(1<=K/\K<=64)/\(1<=M/\M<=192)/\k=(K:Int)/\m=(M:Int)/\i=(I:Int)):Calls Tryz.prog 36 #[eX k m i] w λe w'=>∃mb,e= .returned (.tuple #[bg mb,.nilIface])/\NewAt W0 E H K M w mb w':=by
 have JJ:=qd hkm;clear hkm;have yO:=qd hE;have hB0:=aj.new w 23 #[.int .i64 k,.int .i64 m,.int .i64 i];have hb0:=(Below.refl w.heap.size w).alloc (zb _) (.cells #[.int .i64 k,.int .i64 m,.int .i64 i] 23);unfold eX;go_in;go_upto_region 1 with fail;refine aY (F:=λv=>aj v w.heap.size 23 #[.int .i64 k,.int .i64 m,.int .i64 i]/\Below w.heap.size w v) ⟨hB0,hb0⟩ ?_;clear hB0 hb0;rintro w1 ⟨hB1,hb1⟩;obtain⟨bx,hbx⟩:∃bx,bx=w.heap.size:=⟨_,rfl⟩;rw[<-hbx]at hB1|-;have oh:=qd hbx;have HB:=qd hB1;have uN:=qd (hE.mod (Mod.of_below hb1 []) (by simp));have yQ:=qd hb1;obtain⟨k0,k1,k2⟩:=hB1.c3;have EJ:=qd (xU k m i w1 uN.o.errs);rw[hcf]at EJ;simp only[if_true]at EJ;unfold eX at EJ;have hz1:=hb1.size;have aiu:=HB.o.lt;clear hB1 hb1 hE hbx;go_wp2_with fail;refine EJ.o.mono ?_;rintro y w2 ⟨rfl,hb2⟩;replace HB:=qB hb2 HB;replace yQ:=qd (wP yQ.o hb2);replace uN:=qB hb2 uN;have hz2:=hb2.size;clear hb2 EJ k0 k1 k2;go_wp2_with fail;refine(aaK w2).mono ?_;rintro y w3 ⟨nb,tb,gb,rfl,hn1,hn2,⟨l1,l2,l3,l4,l5⟩,hb3⟩;have HN:=qd (show bM w3 nb [nb,tb,gb] nd0 from⟨tb,gb,hn1,hn2,rfl,l4,l5⟩);replace HB:=qB hb3 HB;replace yQ:=qd (wP yQ.o hb3);replace uN:=qB hb3 uN;have hz3:=hb3.size;have l6:=hn2.ne;have hnl:=HN.o.fC;have aiv:=hnl nb (by simp);have aiw:=hnl tb (by simp);have aix:=hnl gb (by simp);clear hb3 hn1 hn2 hnl;unfold aK;have HDn:=qd (show Calls Tryz.prog 62 #[.int .i64 0] w3 _ from Tf 0 (by omega) w3);unfold jf at HDn
 go_wp2_with fail;refine HDn.o.mono ?_;rintro y w4 ⟨rfl,hd4,hb4⟩;have HD:=qd (show dH w4 (w3.heap.size+1) w3.heap.size 0 [0]from hd4);replace HN:=qd (HN.o.mod (Mod.of_below hb4 []) (by simp));replace HB:=qB hb4 HB;replace yQ:=qd (wP yQ.o hb4);replace uN:=qB hb4 uN;have hz4:=hb4.size;have agB:=HD.o.lt;have agC:=HD.o.Ms;obtain⟨db,hdb⟩:∃db,db=w3.heap.size+1:=⟨_,rfl⟩;obtain⟨eb,Ee⟩:∃eb,eb=w3.heap.size:=⟨_,rfl⟩;rw[<-hdb,<-Ee]at HD;rw[<-hdb];rw[<-hdb]at agB;rw[<-Ee]at agC;have uT:=qd hdb;have qI:=qd Ee;clear hb4 hd4 HDn hdb Ee;have kk:=HB.o.c3;have eO:=qd (XH k (by have:=JJ.o;omega) (zw nb db eb).val w4 uN.o.errs);unfold fD at eO;go_wp2_with fail;refine eO.o.mono ?_;rintro y w5 ⟨sb,qb,rb,jb,rfl,hs5,hsl,hb5⟩;have HS:=qd hs5;replace HN:=qd (HN.o.mod (Mod.of_below hb5 []) (by simp));replace HD:=qB hb5 HD;replace HB:=qB hb5 HB;replace yQ:=qd (wP yQ.o hb5);replace uN:=qB hb5 uN;have hz5:=hb5.size;have HSl:=qd hsl;clear kk hb5 hs5 eO hsl;have kk:=HB.o.c3;go_wp2;have hrow:=World.ownsRow_lit (base:=W0.heap.size) (e:=126) (size:=1) w5 #[pQ nb] 1 (by have:=uN.o.size;omega) (by decide) rfl;have hb6:Below w5.heap.size w5 (w5.alloc (.cells #[pQ nb] 126)):=(Below.refl _ _).alloc (zb _) _;have nP:=Mod.of_below hb6 [];have hsl:=HSl.o;have hd1:=uT.o;have hd2:=qI.o;have s1:=hsl sb (by simp);have s2:=hsl qb (by simp);have s3:=hsl rb (by simp);have s4:=hsl jb (by simp);have hslt:=HS.o.lt;have t1:=hslt sb (by simp);have t2:=hslt qb (by simp)
 have t3:=hslt rb (by simp);have t4:=hslt jb (by simp);have aiy:=oh.o
 obtain⟨F,hF⟩:=aD.fresh H (w:=w) (w5:=w5.alloc (.cells #[pQ nb] 126)) (nb:=nb) (tb:=tb) (gb:=gb) (db:=db) (eb:=eb) (sb:=sb) (qb:=qb) (rb:=rb) (jb:=jb) (vb:=w5.heap.size) (K:=K) (M:=M) (I:=I) yO.o JJ.o.1 JJ.o.2.1 (wP yQ.o hb6) (HN.o.mod nP (by simp)) (HD.o.mod nP (by simp) (by simp)) (JJ.o.2.2.1▸HS.o.mod nP (by simp)) hrow
  (by intro q hq;simp at hq;omega) (by intro q hq;simp at hq|-;omega) (by intro q hq;simp at hq|-;omega) (by intro q hq;simp at hq;omega)
 have hkk:=JJ.o.2.2
 have hq:ql K M I db sb w5.heap.size= #[.int .i64 k,.int .i64 m,.int .i64 i,.int .i64 0,.int .i64 0,.int .i64 0,.int .i64 0,.int .i64 0,.int .i64 0,.bool false,.int .i64 0,.slice (some ⟨w5.heap.size,0,none⟩) 1 1,pQ db,.pointer none,pQ sb,.int .i64 0]:=by
  unfold ql;rw[hkk.1,hkk.2.1,hkk.2.2]
 rw[hq]at hF;refine bodyPost_ret (v:= .tuple #[.pointer (some ⟨w5.heap.size+1,0,none⟩),.nilIface]) (by simp[results,Tryz.results36,go_sem]) rfl ⟨w5.heap.size+1,rfl,⟨_,F, ?_,rfl,rfl,hF⟩⟩;simp
end
section
variable {α : Type} {id : Nat} {W0 w : World} {E : Nat -> Addr}
def aiz {α:Type}(left:α->Nat->Nat)(a:α)(ids:List Nat):Nat:=(ids.map (left a)).sum
def Qz (l:Lit->Bool)(rem:List Nat):Prop:=∀x:Int,(Lit.int .i64 x).wf=true->(l (.int .i64 x)=true↔∃id∈rem,x=(id:Int))
theorem Qz.next {l:Lit->Bool}{rem:List Nat}(h:Qz l rem)(hn:rem.Nodup):Qz (λz=>l z && !z.sameKey (.int .i64 (id:Int))) (rem.erase id):=λx hx=>by
 have hk:(Lit.int .i64 x).sameKey (.int .i64 (id:Int))=decide (x=(id:Int)):=by simp[Lit.sameKey]
 show(l (.int .i64 x) && !(Lit.int .i64 x).sameKey (.int .i64 (id:Int)))=true↔_;rw[hk,yk,h x hx];constructor
 ·rintro⟨⟨j,hj,rfl⟩,h2⟩
  have h3:¬(j:Int)=(id:Int):=by simpa using h2
  exact⟨j,(List.mem_erase_of_ne (λe=>h3 (by rw[e]))).2 hj,rfl⟩
 ·rintro⟨j,hj,rfl⟩;rw[hn.mem_erase_iff]at hj;have h3:¬(j:Int)=(id:Int):=λe=>hj.1 (by omega);exact⟨⟨j,hj.2,rfl⟩,by simpa using h3⟩
end
section
variable {g gl id k len' lo mx : Nat} {N N1 : Nd} {add del : List ay} {C : iW} {F aL : List Nat} {a' : Pool} {t : Int}
def gU (W0:World)(E:Nat->Addr)(H:Nat->Nat)(K M mb:Nat)(G:List Nat)(w:World)(a:Pool)(ids:List Nat):Prop:=
 ∃(C:iW) (F:List Nat) (len:Nat) (b:Int) (x:bS),C.mb=mb/\C.K=K/\C.M=M/\G=C.foot F/\aD W0 E H C w (C.foot F) w F ⟨a,ids,len,b,x⟩/\kX a ids []/\len=a.ents.length/\len<=M
def kV (W0:World)(E:Nat->Addr)(H:Nat->Nat)(K M mb:Nat)(G:List Nat)(w w':World)(a':Pool)(aL:List Nat):Prop:=
 ∃G',gU W0 E H K M mb G' w' a' aL/\(∀q∈G',q∈G\/w.heap.size<=q)/\Mod G w w'
def Yd (H:Nat->Nat)(K:Nat)(a:Pool)(ids:List Nat)(del add:List ay)(a':Pool)(aL:List Nat):Prop:=
 ∃(id:Nat) (N N1:Nd),a.Ns[id]?=some N/\Wr H del add N N1/\acs H K {a with Ns:=a.Ns.set id N1} ids id a' aL/\uU del add a.ents a'.ents/\a'.ents.Perm ((a.Ns.set id N1).flatMap Nd.ents)
theorem aeF {H:Nat->Nat}{a:Pool}(hN:a.Ns[id]?=some N)(hw:Wr H del add N N1):uU del add a.ents ((a.Ns.set id N1).flatMap Nd.ents):=by
 obtain⟨B,B',b1,b2⟩:=sP (N':=N1) hN;unfold Pool.ents;rw[b1,b2];exact hw.Jy.wrap B B'
section
variable {W0 : World} {E : Nat -> Addr} {H : Nat -> Nat} {K M mb : Nat} {G : List Nat} {w w' : World} {a : Pool} {ids : List Nat}
theorem kV.of {A':dI}{v':Value}{F':List Nat}{b':Int}{x':bS}(h1:C.mb=mb)(h2:C.K=K)(h3:C.M=M)(hc:aD W0 E H {C with A:=A',v:=v'} w (C.foot F) w' F' ⟨a',aL,len',b',x'⟩)(hi:kX a' aL [])(hl:len'=a'.ents.length)(hm:len'<=M):kV W0 E H K M mb (C.foot F) w w' a' aL:=
 ⟨({C with A:=A',v:=v'}:iW).foot F',⟨{C with A:=A',v:=v'},F',len',b',x',h1,h2,h3,rfl,hc.again,hi,hl,hm⟩,hc.sub,hc.mod⟩
theorem zV {len:Nat}{b:Int}{x:bS}(h1:C.mb=mb)(h2:C.K=K)(h3:C.M=M)(hl:len=a.ents.length)(hl':len'+del.length=len+add.length)(hm:len'<=M)(h:zq W0 E H C w (C.foot F) ⟨a,ids,len,b,x⟩ id del add len' w'):
  ∃a' aL,Yd H K a ids del add a' aL/\kV W0 E H K M mb (C.foot F) w w' a' aL:=by
 obtain⟨N,N1,x1,hN,hw,_,A',v',F',a',aL,b',x',u,k1,k2,k3,k4,_⟩:=h;have hch:=aeF hN hw;have aeG:uU del add a.ents a'.ents:=hch.perm (.refl _) k3;have hlen:=aeG.len;exact⟨a',aL,⟨id,N,N1,hN,hw,h2▸k1,aeG,k3⟩,kV.of h1 h2 h3 k4 k2 (by show len'=_;omega) hm⟩
theorem aeH (h:gU W0 E H K M mb G w a ids)(e:ay)(he:kH H e):Calls Tryz.prog 68 #[bg mb,nU e.key,nU e.val,nU e.hash] w λy w'=>
  (look a.ents e.key=none/\M<=a.ents.length/\y= .returned (eT E 2)/\kV W0 E H K M mb G w w' a ids)\/
  (∃a' aL,look a.ents e.key=none/\a.ents.length<M/\y= .returned .nilIface/\Yd H K a ids [] [e] a' aL/\kV W0 E H K M mb G w w' a' aL)\/
  (∃a' aL e0,look a.ents e.key=some e0/\y= .returned .nilIface/\Yd H K a ids [e0] [{e0 with val:=e.val}] a' aL/\kV W0 E H K M mb G w w' a' aL):=by
 obtain⟨C,F,len,b,x,h1,h2,h3,rfl,hC,hi,hl,hm⟩:=h;rw[<-h1]
 cases hlk:look a.ents e.key with
 |some e0=>
  obtain⟨m1,m2⟩:=qj hlk;refine(KX hC hi e he e0 m1 m2).mono ?_;rintro y w' ⟨rfl,id,hp⟩;obtain⟨a',aL,k1,k2⟩:=zV h1 h2 h3 hl (by simp) hm hp;exact .inr (.inr ⟨a',aL,e0,rfl,rfl,k1,h1▸k2⟩)
 |none=>
  have hno:∀y∈a.ents,y.key≠e.key:=λy hy hk=>by
   unfold look at hlk;rw[j9]at hlk;exact hlk y hy (by simpa using hk)
  by_cases hlt:len<C.M
  ·refine(Qw hC hi e he hno hlt hl).mono ?_;rintro y w' ⟨rfl,id,hp⟩;obtain⟨a',aL,k1,k2⟩:=zV h1 h2 h3 hl (by simp) (by show len+1<=M;omega) hp;exact .inr (.inl ⟨a',aL,rfl,by omega,rfl,k1,h1▸k2⟩)
  ·refine(NW hC hi e he hno hlt).mono ?_;rintro y w' ⟨rfl,x',hc,_⟩;exact .inl ⟨rfl,by omega,rfl,h1▸kV.of (A':=C.A) (v':=C.v) h1 h2 h3 hc hi hl hm⟩
theorem Ye (h:gU W0 E H K M mb G w a ids)(key:Nat)(h64:H key<18446744073709551616):Calls Tryz.prog 71 #[bg mb,nU key,.int .u64 (H key:Int)] w λy w'=>
  ∃a' aL,y= .returned (.tuple #[.int .u64 (((look a.ents key).getD ⟨0,0,0⟩).val:Int),.bool (look a.ents key).isSome])/\Yd H K a ids (look a.ents key).toList [] a' aL/\kV W0 E H K M mb G w w' a' aL:=by
 obtain⟨C,F,len,b,x,h1,h2,h3,rfl,hC,hi,hl,hm⟩:=h;have hM:=hC.mm.2;rw[<-h1]
 cases hlk:look a.ents key with
 |some e0=>
  obtain⟨m1,m2⟩:=qj hlk
  have hpos:1<=len:=by rw[hl];exact List.length_pos_of_mem m1
  refine(RS hC hi key h64 e0 m1 m2 ⟨hpos,by show len<=192;omega⟩).mono ?_;rintro y w' ⟨rfl,id,hp⟩;obtain⟨a',aL,k1,k2⟩:=zV h1 h2 h3 hl (by show len-1+1=len+0;omega) (by show len-1<=M;omega) hp;exact⟨a',aL,rfl,k1,h1▸k2⟩
 |none=>
  have hno:∀y∈a.ents,y.key≠key:=λy hy hk=>by
   unfold look at hlk;rw[j9]at hlk;exact hlk y hy (by simpa using hk)
  refine(Ih hC hi key h64 hno).mono ?_;rintro y w' ⟨rfl,id,hp⟩;obtain⟨a',aL,k1,k2⟩:=zV h1 h2 h3 hl (by simp) hm hp;exact⟨a',aL,rfl,k1,h1▸k2⟩
theorem aeI (h:gU W0 E H K M mb G w a ids)(key:Nat)(h64:H key<18446744073709551616):Calls Tryz.prog 47 #[bg mb,nU key,.int .u64 (H key:Int)] w λy w'=>
  y= .returned (.tuple #[.int .u64 (((look a.ents key).getD ⟨0,0,0⟩).val:Int),.bool (look a.ents key).isSome])/\kV W0 E H K M mb G w w' a ids:=by
 obtain⟨C,F,len,b,x,h1,h2,h3,rfl,hC,hi,hl,hm⟩:=h;rw[<-h1];refine(abj hC hi key h64).mono ?_;rintro y w' ⟨rfl,x',hc,_⟩;exact⟨rfl,h1▸kV.of (A':=C.A) (v':=C.v) h1 h2 h3 hc hi hl hm⟩
theorem aeJ (h:gU W0 E H K M mb G w a ids):Calls Tryz.prog 72 #[bg mb] w λe w'=>e= .returned (nI a.ents.length)/\w=w':=by
 obtain⟨C,F,len,b,x,h1,h2,h3,rfl,hC,hi,hl,hm⟩:=h;rw[<-h1,<-hl];exact aa7 hC
theorem Yf (h:gU W0 E H K M mb G w a ids):Calls Tryz.prog 74 #[bg mb] w λe w'=>e= .returned (nI a.groups)/\w=w':=by
 obtain⟨C,F,len,b,x,h1,h2,h3,rfl,hC,hi,hl,hm⟩:=h;rw[<-h1];exact RU hC
theorem gU.mod {S:List Nat}(h:gU W0 E H K M mb G w a ids)(hm:Mod S w w')(hS:∀q∈S,q∉G/\W0.heap.size<=q):gU W0 E H K M mb G w' a ids:=by
 obtain⟨C,F,len,b,x,h1,h2,h3,rfl,hC,hi,hl,hm'⟩:=h
 have hd:∀q∈S,q≠C.mb/\q∉C.s.blocks/\q∉F/\C.v.ownBlock≠some q:=λq hq=>by
  have:=(hS q hq).1;rw[bB]at this;simp only[not_or]at this;exact this
 refine⟨C,F,len,b,x,h1,h2,h3,rfl,⟨bH.start (hC.aF.aF.mod hm (λq hq dS=>(hd q dS).2.1 hq)) (hC.hp.Av hC.aF.pool hm (λq hq dS=>(hd q dS).2.2.1 hq)) (hC.aF.met.mod hm (λhq=>(hd _ hq).1 rfl)) (hC.aF.env.mod hm (λq hq=>(hS q hq).2)) hC.aF.apart hC.aF.sJ,kG hC.row hm (λk hk JM=>(hd k JM).2.2.2 hk),hC.BF,hC.pos,hC.kk,hC.mm, ?_,λq hq=> .inl hq,Mod.refl _ _⟩,hi,hl,hm'⟩;have:=hC.aF.env.size;have:=hm.size;omega
theorem gU.below (h:gU W0 E H K M mb G w a ids)(hb:Below w.heap.size w w'):gU W0 E H K M mb G w' a ids:=h.mod (Mod.of_below hb []) (by simp)
theorem gU.facts (h:gU W0 E H K M mb G w a ids):kX a ids []/\a.d<=5/\a.Ns.length<=32/\1<=a.Ns.length/\a.Ns.length<=2^a.d/\(∀(i:Nat) (N:Nd),a.Ns[i]?=some N->dY H N)/\a.ents.length<=M/\M<=192/\(1<=K/\K<=64)/\(a.ents.map ay.key).Nodup/\(∀q∈G,q<w.heap.size/\W0.heap.size<=q)/\Env W0 E w:=by
 obtain⟨C,F,len,b,x,h1,h2,h3,rfl,hC,hi,hl,hm⟩:=h;obtain⟨b1,b2,b3,b4⟩:=hC.bounds;have h4:=hC.mm;have h5:=hC.kk;exact⟨hi,b1,b2,hC.pos,hi.dir.nodes,b4,by omega,by omega,by omega,JU hi.dir b1 b4,λq hq=>⟨hC.fC q hq,hC.aa5 q hq⟩,hC.aF.env⟩
theorem Yg {H:Nat->Nat}(h:NewAt W0 E H K M w mb w'):kV W0 E H K M mb [] w w' nJ []:=by
 obtain⟨C,F,h1,h2,h3,hC⟩:=h;exact⟨_,⟨C,F,0,0,Ap,h1,h2,h3,rfl,hC.again,inv0,by rw[afM];rfl,Q4 _⟩,hC.sub,hC.mod⟩
end
def GB (mx:Nat)(a:Pool):Prop:=∀(i:Nat) (N:Nd),a.Ns[i]?=some N->N.len<=mx/\N.each<=mx/\N.groups<=2*mx
theorem GB.more {mx':Nat}{a:Pool}(h:GB mx a)(hm:mx<=mx'):GB mx' a:=λi N hN=>by
 have:=h i N hN;omega
end
section
variable {es l : List ay} {e : ay} {key : Nat}
def zW (a:Pool):List Nat:=a.Ns.map λN=>mq N.pfx N.au
theorem wU {h d p:Nat}:eu h d=p↔oK p d<=h/\h<=mq p d:=by
 unfold eu oK mq;have:=pos2 (64-d);rw[wR];omega
theorem RV {f:ay}{l':List ay}{o:Option ay}(h:ig f l o)(h1:∀e∈l',bO e f=false->e∈l)(h2:∀e∈l,e∈l'):ig f l' o:=by
 cases o with
 |none=>
  intro e he
  cases hl:bO e f with
  |true=>rfl
  |false=>exact absurd (h e (h1 e he hl)) (by rw[hl];simp)
 |some m=>exact⟨h2 m h.1,h.2.1,λe he hl=>h.2.2 e (h1 e he hl) hl⟩
theorem MR {hash:Nat}(h:bO e ⟨key,0,hash⟩=false):hash<=e.hash:=by
 simp[bO]at h;omega
def upto (es:List ay)(hi:Nat):List ay:=es.filter λe=>decide (e.hash<=hi)
theorem oP {hi:Nat}:e∈upto es hi↔e∈es/\e.hash<=hi:=by unfold upto;simp
def rest (es:List ay)(key:Nat):List ay:=es.filter λx=>x.key !=key
theorem EK (h:look es key=none):rest es key=es:=by
 unfold look at h;rw[j9]at h
 exact List.filter_eq_self.2 λx hx=>by simpa using h x hx
theorem Yh (key:Nat)(h:es.Perm l):(rest es key).Perm (rest l key):=h.filter _
theorem EL {r:List ay}(hn:(es.map ay.key).Nodup)(h:es.Perm (e::r)):(rest es e.key).Perm r:=by
 have h1:=Yh e.key h;have h2:=(h.map ay.key).nodup_iff.1 hn;rw[ye,qa]at h2
 have h3:rest (e::r) e.key=r:=by
  unfold rest;rw[xf,if_neg (by simp)]
  exact List.filter_eq_self.2 λx hx=>by
   have:x.key≠e.key:=λhh=>h2.1 (by rw[<-hh];exact QQ hx);simpa using this
 rw[h3]at h1;exact h1
def uh (M:Nat)(es:List ay)(key:Nat):Bool:=(look es key).isNone && decide (M<=es.length)
def vG (M:Nat)(es:List ay)(key:Nat):Nat:=if uh M es key then 2 else 0
def KY (M:Nat)(es:List ay)(e:ay):List ay:=if uh M es e.key then es else rest es e.key++[e]
def Ik (es:List ay)(key:Nat):Value:= .tuple #[.int .u64 (((look es key).getD ⟨0,0,0⟩).val:Int),.bool (look es key).isSome]
section
variable {W0 : World} {E : Nat -> Addr} {H : Nat -> Nat} {K M mb : Nat} {G : List Nat} {w w' : World} {a : Pool} {ids : List Nat}
theorem aeK (h:gU W0 E H K M mb G w a ids)(key:Nat)(h64:H key<18446744073709551616):Calls Tryz.prog 71 #[bg mb,nU key,.int .u64 (H key:Int)] w λy w'=>
  y= .returned (Ik a.ents key)/\∃a' aL,kV W0 E H K M mb G w w' a' aL/\a'.ents.Perm (rest a.ents key):=by
 obtain⟨_,_,_,_,_,_,_,_,_,f10,_⟩:=h.facts;refine(Ye h key h64).mono ?_;rintro y w' ⟨a',aL,rfl,hw,hto⟩;obtain⟨_,_,_,_,_,_,⟨r,hr1,hr2⟩,_⟩:=hw;refine⟨rfl,a',aL,hto, ?_⟩
 cases hl:look a.ents key with
 |none=>
  rw[hl]at hr1;rw[EK hl];exact hr2.trans hr1.symm
 |some e0=>
  rw[hl]at hr1;have h3:=EL f10 hr1;rw[(qj hl).2]at h3;exact hr2.trans h3.symm
theorem aeL (h:gU W0 E H K M mb G w a ids)(key:Nat)(h64:H key<18446744073709551616):Calls Tryz.prog 47 #[bg mb,nU key,.int .u64 (H key:Int)] w λy w'=>
  y= .returned (Ik a.ents key)/\kV W0 E H K M mb G w w' a ids:=aeI h key h64
end
end
