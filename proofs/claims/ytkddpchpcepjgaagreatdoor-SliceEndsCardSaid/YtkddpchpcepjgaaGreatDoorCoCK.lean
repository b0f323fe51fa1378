/- A core's Len, Nodes, Depth, of, Get by their contracts. -/
import Derived.Test.YtkddpchpcepjgaaGreatDoorCoCG
namespace Go.Proofs.YtkddpchpcepjgaaGreatDoor
set_option maxRecDepth 100000
set_option maxHeartbeats 4000000
open Go.RowKit cu
section
variable {W0 w w0 : World} {E : Nat -> Addr} {H : Nat -> Nat} {C : iW} {F G0 : List Nat} {st : lX}
def bg (b:Nat):Value:=pQ b
theorem aa7 (h:aD W0 E H C w0 G0 w F st):Calls Tryz.prog 72 #[bg C.mb] w λe w'=>e= .returned (nI st.len)/\w=w':=by
 have HC:=qd h;obtain⟨c0,c1,c11,c12,c13,c14,c15⟩:=HC.o.cells;clear h;unfold bg;go_in;go_wp2;go_ret;exact⟨rfl,rfl⟩
theorem sN (h:aD W0 E H C w0 G0 w F st)(hash id:Nat)(h64:hash<18446744073709551616)(hid:st.a.l.getD (eu hash st.a.d) 0=id)(hn:id<st.a.Ns.length):Calls Tryz.prog 80 #[bg C.mb,nU hash] w λe w'=>e= .returned (.tuple #[nI id,aK (C.A.nb id)])/\Below w.heap.size w w':=by
 have HC:=qd h;obtain⟨c0,c1,c11,c12,c13,c14,c15⟩:=HC.o.cells;obtain⟨Fs,hF,hp⟩:=h.aF.pool;have HD:=qd (aed C.A.db C.A.eb st.a.d st.a.l hash h64 w hp.dir);rw[hid]at HD;clear h hp hF;unfold jf at HD;unfold bg aK;go_in;go_wp2_with fail;refine HD.o.mono ?_;rintro x w1 ⟨rfl,hd⟩;have hb:Below w.heap.size w w1:=hd▸(Below.refl _ _).drew;have HB:=qd hb;replace HC:=qd (HC.o.below hb);clear c0 c1 c11 c12 c13 c14 c15 hd hb HD;obtain⟨c0,c1,c11,c12,c13,c14,c15⟩:=HC.o.cells;obtain⟨vb,cap,hv,hr⟩:=HC.o.rowAt;rw[hv]at c11;have cr:=hr id hn
 have hn':(id:Int)<(st.a.Ns.length:Int):=by omega
 have hi0:(0:Int)<=(id:Int):=by omega
 generalize st.a.Ns.length=n at*;clear hv hr hid;go_wp2;go_region;go_wp2;refine bodyPost_ret (v:= .tuple #[nI id,.pointer (some ⟨C.A.nb id,0,none⟩)]) (by simp[results,Tryz.results80,go_sem]) rfl ⟨rfl,wP HB.o (Below.refl _ _).drew⟩
end
section
variable {S l' : List Nat} {rJ : Option (Nat × List Nat)}
section
variable {W0 : World} {E : Nat -> Addr} {H : Nat -> Nat} {C : iW} {w0 : World} {G0 : List Nat} {w w' : World} {F : List Nat} {st : lX}
theorem Ez (h:aD W0 E H C w0 G0 w F st)(n:Nat)(hn:1<=n):Calls Tryz.prog 132 #[.pointer (some ⟨C.mb,3,none⟩),nI n] w λe w'=>e= .returned undef/\aD W0 E H C w0 G0 w' F {st with x:=st.x.add (cU (n:Int)) 1}:=
 (tC C.mb _ _ _ 3 st.x.all st.x.last C.m (n:Int) (by omega) w h.aF.met).mono λe w' ⟨h1,h2,h3⟩=>⟨h1,h.met h2 h3⟩
theorem aD.sched (h:aD W0 E H C w0 G0 w F st){aL:List Nat}(hs:eH w' C.sb C.qb C.rb C.jb (C.K:Int) st.b C.A.val aL)(hm:Mod S w w')(hS:∀q∈S,q∈C.s.blocks):aD W0 E H C w0 G0 w' F {st with ids:=aL}:=by
 have hb:∀q∈S,q∉F/\q≠C.mb/\W0.heap.size<=q:=λq hq=>h.aF.apart q (hS q hq);exact h.upd C.A C.v {st with ids:=aL} hm (λq hq=>bB.2 (.inr (.inl (hS q hq)))) hs (h.hp.Av h.aF.pool hm (λq hq dS=>(hb q dS).1 hq)) (h.aF.met.mod hm (λhq=>(hb _ hq).2.1 rfl)) (mZ (st:=st) h hm (λq hq=> .inr (.inl (hS q hq)))) h.pos (λ_ hq=> .inl hq) (zl (st:=st) h)
theorem jD.Vm {mb:Nat}{A:dI}{Fs:Nat->List Nat}{a:Pool}(h:jD W0 mb H A w Fs a)(hD:dH w' A.db A.eb a.d l')(hC:∀(next:Nat) (lf:List Nat),rJ=some (next,lf)->jO w' A.cb A.db A.eb A.fb A.fe a.d next l' lf)(hi:rJ.isSome=a.cop.isSome)(hm:Mod S w w')(hS:∀q∈S,q∈A.eP a.cop):
  jD W0 mb H A w' Fs {a with l:=l',cop:=rJ}/\iM A Fs {a with l:=l',cop:=rJ}=iM A Fs a:=by
 have hd:A.eP rJ=A.eP a.cop:=by unfold dI.eP;rw[hi]
 have hf:iM A Fs {a with l:=l',cop:=rJ}=iM A Fs a:=by unfold iM;rw[<-hd]
 refine⟨⟨λi N hN=>⟨(h.lW i N hN).1.mod hm (λq hq dS=>h.xB i (bJ hN) q hq (hS q dS)),(h.lW i N hN).2⟩,hD,hC,h.sep,λi hi q hq=>by show q∉A.eP rJ;rw[hd];exact h.xB i hi q hq,λq hq=>h.low q (hf▸hq),λhq=>h.mb (hf▸hq),h.zk⟩,hf⟩
theorem aD.Vm (h:aD W0 E H C w0 G0 w F st)(hD:dH w' C.A.db C.A.eb st.a.d l')(hC:∀(next:Nat) (lf:List Nat),rJ=some (next,lf)->jO w' C.A.cb C.A.db C.A.eb C.A.fb C.A.fe st.a.d next l' lf)(hi:rJ.isSome=st.a.cop.isSome)(hm:Mod S w w')(hS:∀q∈S,q∈C.A.eP st.a.cop):
  aD W0 E H C w0 G0 w' F {st with a:={st.a with l:=l',cop:=rJ}}:=by
 obtain⟨Fs,hF,hp⟩:=h.aF.pool;obtain⟨hp',hf⟩:=hp.Vm hD hC hi hm hS;have hSF:∀q∈S,q∈F:=λq hq=>hF▸aR.2 (.inr (hS q hq))
 have hcm:cmp C {st with a:={st.a with l:=l',cop:=rJ}}=cmp C st:=by unfold cmp mI;simp only;rw[hi]
 refine h.upd C.A C.v {st with a:={st.a with l:=l',cop:=rJ}} hm (λq hq=>bB.2 (.inr (.inr (.inl (hSF q hq))))) (h.aF.aF.mod hm (λq hq dS=>(h.aF.apart q hq).1 (hSF q dS))) ⟨Fs,hF.trans hf.symm,hp'⟩ ?_ (mZ (st:=st) h hm (λq hq=> .inr (.inr (hSF q hq)))) h.pos (λ_ hq=> .inl hq) (zl (st:=st) h);show aN w' (cmp C {st with a:={st.a with l:=l',cop:=rJ}}) st.x;rw[hcm];exact h.aF.met.mod hm (λhq=>h.hp.mb h.aF.pool (hSF _ hq))
end
theorem Ql {W0:World}{E:Nat->Addr}{H:Nat->Nat}{C:iW}{w0:World}{G0:List Nat}{w:World}{F:List Nat}{st:lX}(h:aD W0 E H C w0 G0 w F st)(id:Nat)(t:TypeId)(p:Addr)(hv:C.A.val id= .iface t (.pointer (some p)))(hid:id∉st.ids)(mH:id<=1000)(hroom:st.ids.length<40):Calls Tryz.prog 128 #[bg C.mb,nI id,.iface t (.pointer (some p))] w λe w'=>e= .returned undef/\aD W0 E H C w0 G0 w' F {st with ids:=st.ids++[id],x:=st.x.add (cU 1) 1}:=by
 have HC:=qd h;obtain⟨c0,c1,c11,c12,c13,c14,c15⟩:=HC.o.cells;have HU:=qd (Ez h 1 (zb _));have HV:=qd hv;have lV:=qd hid;have JN:=qd hroom;clear h hv hid hroom;unfold bg;go_in;go_wp2_with fail;refine HU.o.mono ?_;rintro x w1 ⟨rfl,h1⟩;clear HC HU c0 c1 c11 c12 c13 c14 c15;have HC:=qd h1;clear h1;obtain⟨c0,c1,c11,c12,c13,c14,c15⟩:=HC.o.cells;have HA:=qd (XG C.sb C.qb C.rb C.jb C.K st.b C.A.val st.ids id lV.o mH JN.o t p HV.o w1 HC.o.aF.aF);unfold fD at HA;go_wp2_with fail;refine HA.o.mono ?_;rintro x w2 ⟨rfl,h2,h3⟩;have sO:=qd (HC.o.sched h2 h3 (by intro q hq;simp[iW.s,SP.blocks]at hq|-;omega));clear c0 c1 c11 c12 c13 c14 c15 HC HA h2 h3;go_wp2_with fail;refine(jV w2).mono ?_;rintro x w3 ⟨rfl,rfl⟩;go_wp2;go_end0;exact⟨rfl,sO.o⟩
theorem NT {W0:World}{E:Nat->Addr}{H:Nat->Nat}{C:iW}{w0:World}{G0:List Nat}{w:World}{F:List Nat}{st:lX}(h:aD W0 E H C w0 G0 w F st)(p pd id:Nat)(h1:pd<=st.a.d)(hp:p<2^pd)(hc:st.a.cop=none):Calls Tryz.prog 184 #[bg C.mb,nI p,nI pd,nI id] w λe w'=>∃n,1<=n/\e= .returned (.int .i64 ((n:Nat):Int))/\aD W0 E H C w0 G0 w' F {st with a:={st.a with l:=j6 st.a.l (dA p pd st.a.d) id (2^(st.a.d-pd)),cop:=st.a.cop.map λc=>(c.1,qV c.2 (j6 st.a.l (dA p pd st.a.d) id (2^(st.a.d-pd))) (dA p pd st.a.d) (min (dA p pd st.a.d+2^(st.a.d-pd)) c.1-dA p pd st.a.d))}}:=by
 obtain⟨Fs,hF,hpo⟩:=h.aF.pool;have HC:=qd h;obtain⟨c0,c1,c11,c12,c13,c14,c15⟩:=HC.o.cells;unfold mI at c13;rw[hc]at c13;simp only[jp,yd,xx]at c13;have HS:=qd (Tg C.A.db C.A.eb st.a.d st.a.l p pd h1 hp id w hpo.dir);have hpos:=pos2 (st.a.d-pd);obtain⟨n,hn⟩:∃n,n=2^(st.a.d-pd):=⟨_,rfl⟩
 have hn1:1<=n:=by omega
 have BG:=qd hc;have HN:=qd hn;have HS2:=qd (show Calls Tryz.prog 221 #[jf C.A.db,nI p,nI pd,nI id] w λe w'=>e= .returned (.tuple #[nI n,.nilIface])/\dH w' C.A.db C.A.eb st.a.d (j6 st.a.l (dA p pd st.a.d) id (2^(st.a.d-pd)))/\Mod [C.A.eb] w w' from by rw[hn];exact HS.o);clear HS;have HS:=HS2;clear HS2 h hc hpo hF h1 hp hn hpos;unfold jf at HS;unfold bg;go_in;go_wp2_with fail;refine HS.o.mono ?_;rintro x w1 ⟨rfl,h3,h4⟩;have sO:=qd (HC.o.Vm (rJ:=none) h3 (λnext lf he=>by cases he) (by rw[BG.o]) h4 (by intro q hq;unfold dI.eP;simp at hq|-;omega));clear c0 c1 c11 c12 c13 c14 c15 h3 h4 HC HS;go_wp2_with fail;refine(vk (n:Int) w1).mono ?_;rintro x w2 ⟨rfl,rfl⟩;go_wp2;go_ret;exact⟨n,hn1,rfl,by have hh:=sO.o;rw[BG.o];exact hh⟩
theorem NU {W0:World}{E:Nat->Addr}{H:Nat->Nat}{C:iW}{w0:World}{G0:List Nat}{w:World}{F:List Nat}{st:lX}(h:aD W0 E H C w0 G0 w F st)(p pd id:Nat)(h1:pd<=st.a.d)(hp:p<2^pd)(c:Nat×List Nat)(hc:st.a.cop=some c):Calls Tryz.prog 184 #[bg C.mb,nI p,nI pd,nI id] w λe w'=>∃n,1<=n/\e= .returned (.int .i64 ((n:Nat):Int))/\aD W0 E H C w0 G0 w' F {st with a:={st.a with l:=j6 st.a.l (dA p pd st.a.d) id (2^(st.a.d-pd)),cop:=st.a.cop.map λc=>(c.1,qV c.2 (j6 st.a.l (dA p pd st.a.d) id (2^(st.a.d-pd))) (dA p pd st.a.d) (min (dA p pd st.a.d+2^(st.a.d-pd)) c.1-dA p pd st.a.d))}}:=by
 obtain⟨Fs,hF,hpo⟩:=h.aF.pool;have HC:=qd h;obtain⟨c0,c1,c11,c12,c13,c14,c15⟩:=HC.o.cells;unfold mI at c13;rw[hc]at c13;simp only[Jn,if_true]at c13;have HS:=qd (RJ C.A.cb C.A.db C.A.eb C.A.fb C.A.fe st.a.d c.1 st.a.l c.2 p pd id h1 hp w (hpo.cop c.1 c.2 hc));have hpos:=pos2 (st.a.d-pd);obtain⟨n,hn⟩:∃n,n=2^(st.a.d-pd)+2*(min (dA p pd st.a.d+2^(st.a.d-pd)) c.1-dA p pd st.a.d):=⟨_,rfl⟩
 have hn1:1<=n:=by omega
 have BG:=qd hc;rw[<-hn]at HS;clear h hc hpo hF h1 hp hn hpos;unfold qR at HS;unfold bg;go_in;go_wp2_with fail;refine HS.o.mono ?_;rintro x w1 ⟨rfl,h3,h4⟩;have sO:=qd (HC.o.Vm (rJ:=some (c.1,_)) h3.old (λnext lf he=>by cases he;exact h3) (by rw[BG.o];rfl) h4 (by intro q hq;unfold dI.eP;rw[BG.o];simp at hq|-;omega));clear c0 c1 c11 c12 c13 c14 c15 h3 h4 HC HS;go_wp2_with fail;refine(vk (n:Int) w1).mono ?_;rintro x w2 ⟨rfl,rfl⟩;go_wp2;go_ret;exact⟨n,hn1,rfl,by have hh:=sO.o;rw[BG.o];exact hh⟩
end
section
variable {id qb : Nat} {val val' : Nat -> Value} {ids : List Nat} {w4 : World} {v4 : Value}
section
variable {W0 : World} {E : Nat -> Addr} {H : Nat -> Nat} {C : iW} {w0 : World} {G0 : List Nat} {w w' : World} {F : List Nat} {st : lX}
theorem aD.two (h:aD W0 E H C w0 G0 w F st){N:Nd}(hN:st.a.Ns[id]?=some N):∃Fi,bM w (C.A.nb id) Fi N/\dY H N/\
  ∀(w':World) (F' F2 S:List Nat) (N0 N1:Nd) (qb:Nat),bM w' (C.A.nb id) F' N0->dY H N0->bM w' qb F2 N1->(∀q∈F',q∈Fi)->(∀q∈F2,q∈Fi\/w.heap.size<=q)->(∀q∈F',q∉F2)->Mod S w w'->(∀q∈S,q∈Fi)->
   ∃Fn,aD W0 E H C w0 G0 w' Fn {st with a:={st.a with Ns:=st.a.Ns.set id N0}}/\∀q∈F2,q∉C.foot Fn/\(q∈G0\/w0.heap.size<=q)/\W0.heap.size<=q:=by
 obtain⟨Fs,hF,hp⟩:=h.aF.pool;obtain⟨hA,hO⟩:=hp.lW id N hN;have hid:=bJ hN;have hin:∀q∈Fs id,q∈F:=λq hq=>hF▸aR.2 (.inl ⟨id,hid,hq⟩);refine⟨Fs id,hA,hO,λw' F' F2 S N0 N1 qb hA0 hO0 hA1 hF' hF2 agt hm hS=> ?_⟩;have hP:=hp.node hN hA0 hO0 (λq hq=> .inl (hF' q hq)) hm (λq hq=> .inr (hS q hq)) h.aF.env.size h.aF.met.lt;have hS':∀q∈S,q∈F:=λq hq=>hin q (hS q hq);have hlen:(st.a.Ns.set id N0).length=st.a.Ns.length:=qq
 have aco:∀q,q∈iM C.A (λi=>if i=id then F' else Fs i) {st.a with Ns:=st.a.Ns.set id N0}->q∈F:=λq hq=>by
  rcases aR.1 hq with⟨i,hi,hq2⟩|hq2
  ·have hi':i<st.a.Ns.length:=by simpa using hi
   by_cases e1:i=id
   ·simp only[if_pos e1]at hq2;exact hin q (hF' q hq2)
   ·simp only[if_neg e1]at hq2;exact hF▸aR.2 (.inl ⟨i,hi',hq2⟩)
  ·exact hF▸aR.2 (.inr hq2)
 refine⟨_,h.upd C.A C.v {st with a:={st.a with Ns:=st.a.Ns.set id N0}} hm (λq hq=>bB.2 (.inr (.inr (.inl (hS' q hq))))) (h.aF.aF.mod hm (λq hq dS=>(h.aF.apart q hq).1 (hS' q dS))) ⟨_,rfl,hP⟩ (h.aF.met.mod hm (λhq=>h.hp.mb h.aF.pool (hS' _ hq))) ?_ ?_ (λq hq=> .inl (aco q hq)) (λg hg=>⟨.inl hg,λhh=>by have:=(h.row.lt g hg).2;omega⟩),λq hq=>⟨λhf=> ?_, ?_, ?_⟩⟩
 ·show w'.ownsRow W0.heap.size 126 1 C.v (st.a.Ns.set id N0).length (kI C.A (st.a.Ns.set id N0).length);rw[hlen];exact mZ (st:=st) h hm (λq hq=> .inr (.inr (hS' q hq)))
 ·show 1<=(st.a.Ns.set id N0).length;rw[hlen];exact h.pos
 ·have hl:=h.fC;rcases hF2 q hq with h1|h1
  ·rcases bB.1 hf with h2|h2|h2|h2
   ·exact h.hp.mb h.aF.pool (show C.mb∈F from h2▸hin q h1)
   ·exact(h.aF.apart q h2).1 (hin q h1)
   ·rcases aR.1 h2 with⟨i,hi,hq2⟩|hq2
    ·have hi':i<st.a.Ns.length:=by simpa using hi
     by_cases e1:i=id
     ·simp only[if_pos e1]at hq2;exact agt q hq2 hq
     ·simp only[if_neg e1]at hq2;exact hp.sep i id hi' hid e1 q hq2 h1
    ·exact hp.xB id hid q h1 hq2
   ·exact h.BF q h2 (by show q∈C.mb::(C.s.blocks++F);simp[hin q h1])
  ·rcases bB.1 hf with h2|h2|h2|h2
   ·have:=hl q (bB.2 (.inl h2));omega
   ·have:=hl q (bB.2 (.inr (.inl h2)));omega
   ·have:=hl q (bB.2 (.inr (.inr (.inl (aco q h2)))));omega
   ·have:=hl q (bB.2 (.inr (.inr (.inr h2))));omega
 ·rcases hF2 q hq with h1|h1
  ·exact h.sub q (bB.2 (.inr (.inr (.inl (hin q h1)))))
  ·exact .inr (qf h.mod.size h1)
 ·rcases hF2 q hq with h1|h1
  ·exact h.aa5 q (bB.2 (.inr (.inr (.inl (hin q h1)))))
  ·have:=h.aF.env.size;omega
def dI.more (A:dI)(n qb:Nat):dI:={A with nb:=λi=>if i=n then qb else A.nb i}
theorem aa8 (A:dI)(n qb:Nat):kI (A.more n qb) (n+1)=kI A n++[pQ qb]:=by
 unfold kI ptrs;rw[List.range_succ,jn,jn];congr 1
 ·congr 1;refine jx λi hi=> ?_;rw[va]at hi;show(if i=n then qb else A.nb i)=A.nb i;rw[if_neg (by omega)]
 ·simp[dI.more]
theorem aa9 {A:dI}{n:Nat}(h:id≠n):(A.more n qb).val id=A.val id:=by
 unfold dI.val dI.ja dI.more;simp only;rw[if_neg h];rfl
theorem RP (h:∀id∈ids,val id=val' id):jX val ids=jX val' ids:=by
 funext y;unfold jX;by_cases hy:∃id∈ids,y=(id:Int)
 ·obtain⟨id,hid,rfl⟩:=hy;simp[hid,h id hid]
 ·split
  ·next hh=>first|rfl|(exfalso;simp at hh;exact hy ⟨_,hh.2,by omega⟩)|simp_all
  ·rfl
theorem eH.acp {w:World}{sb rb jb:Nat}{k b:Int}(h:eH w sb qb rb jb k b val ids)(he:∀id∈ids,val id=val' id):eH w sb qb rb jb k b val' ids:=
 ⟨h.blk,h.Em,by rw[<-RP he];exact h.map,h.nd,h.apart⟩
theorem Qm {w:World}{base:Nat}{v:Value}(h:o9 w base v w4 v4):Mod v.ownBlock.toList w w4:=
 ⟨h.lH.os,h.lH.tape,h.lH.output,h.lH.size,λk hk hn=>h.lH.block k hk (λe=>hn (by rw[<-e];simp))⟩
theorem aD.grow (h:aD W0 E H C w0 G0 w F st){F2:List Nat}{N1:Nd}(hA:bM w qb F2 N1)(hO:dY H N1)(hF2:∀q∈F2,q∉C.foot F/\(q∈G0\/w0.heap.size<=q)/\W0.heap.size<=q)(Ay:∀i∈st.ids,i≠st.a.Ns.length)(h32:st.a.Ns.length+1<=32)(hown:w4.ownsRow W0.heap.size 126 1 v4 (st.a.Ns.length+1) (kI C.A st.a.Ns.length++[pQ qb]))(hgr:o9 w W0.heap.size C.v w4 v4):
  ∃F',aD W0 E H {C with A:=C.A.more st.a.Ns.length qb,v:=v4} w0 G0 (w4.setCell ⟨C.mb,11,none⟩ v4) F' {st with a:={st.a with Ns:=st.a.Ns++[N1]}}/\bM (w4.setCell ⟨C.mb,11,none⟩ v4) qb F2 N1:=by
 obtain⟨Fs,hF,hp⟩:=h.aF.pool;have hml:C.mb<w.heap.size:=h.aF.met.lt;have dO:=Qm hgr;have dz:Mod (C.mb::C.v.ownBlock.toList) w (w4.setCell ⟨C.mb,11,none⟩ v4):=(dO.more (λk hk=>by simp at hk|-;exact .inr hk)).ak (.inl (by simp)) 11 v4
 have hS:∀q∈C.mb::C.v.ownBlock.toList,q∈C.foot F:=λq hq=>by
  rcases zt.1 hq with e|e
  ·exact bB.2 (.inl e)
  ·exact bB.2 (.inr (.inr (.inr (by simpa using e))))
 have hlts:=h.fC
 have hFn:∀q∈F,q∉C.mb::C.v.ownBlock.toList:=λq hq dS=>by
  rcases zt.1 dS with e|e
  ·exact h.hp.mb h.aF.pool (show C.mb∈F from e▸hq)
  ·exact h.BF q (by simpa using e) (by show q∈C.mb::(C.s.blocks++F);simp[hq])
 have hbn:∀q∈C.s.blocks,q∉C.mb::C.v.ownBlock.toList:=λq hq dS=>by
  rcases zt.1 dS with e|e
  ·exact(h.aF.apart q hq).2.1 e
  ·exact h.BF q (by simpa using e) (by show q∈C.mb::(C.s.blocks++F);simp[hq])
 have agu:∀q∈F2,q∉C.mb::C.v.ownBlock.toList:=λq hq dS=>(hF2 q hq).1 (hS q dS);have Qn:=hA.mod dz agu;have air:(C.A.more st.a.Ns.length qb).eP=C.A.eP:=rfl;have zR:∀i,i<st.a.Ns.length->∀q∈Fs i,q∈F:=λi hi q hq=>hF▸aR.2 (.inl ⟨i,hi,hq⟩);have wS:∀q∈C.A.eP st.a.cop,q∈F:=λq hq=>hF▸aR.2 (.inr hq);have hff:∀q∈F,q∈C.foot F:=λq hq=>bB.2 (.inr (.inr (.inl hq)))
 have hl1:(st.a.Ns++[N1]).length=st.a.Ns.length+1:=by simp
 have hget:∀(i:Nat) (X:Nd),(st.a.Ns++[N1])[i]?=some X->(i=st.a.Ns.length/\X=N1)\/(i<st.a.Ns.length/\st.a.Ns[i]?=some X):=λi X hX=>by
  by_cases hi:i<st.a.Ns.length
  ·rw[Z2 hi]at hX;exact .inr ⟨hi,hX⟩
  ·have:=bJ hX;rw[Z1 (by omega)]at hX
   have h0:i-st.a.Ns.length=0:=by omega
   rw[h0]at hX;cases hX;exact .inl ⟨by omega,rfl⟩
 have hin:∀q,q∈iM (C.A.more st.a.Ns.length qb) (λi=>if i=st.a.Ns.length then F2 else Fs i) {st.a with Ns:=st.a.Ns++[N1]}->q∈F\/q∈F2:=λq hq=>by
  rcases aR.1 hq with⟨i,hi,hq2⟩|hq2
  ·have hi':i<st.a.Ns.length+1:=by simpa using hi
   by_cases e1:i=st.a.Ns.length
   ·simp only[if_pos e1]at hq2;exact .inr hq2
   ·simp only[if_neg e1]at hq2;exact .inl (zR i (by omega) q hq2)
  ·exact .inl (wS q hq2)
 have hP:jD W0 C.mb H (C.A.more st.a.Ns.length qb) (w4.setCell ⟨C.mb,11,none⟩ v4) (λi=>if i=st.a.Ns.length then F2 else Fs i) {st.a with Ns:=st.a.Ns++[N1]}:=by
  refine⟨λi X hX=> ?_,hp.dir.mod dz (hFn _ (wS _ (by simp[dI.eP]))) (hFn _ (wS _ (by simp[dI.eP]))),λnext lf hc=>(hp.cop next lf hc).mod dz (λq hq=>hFn q (wS q (by have hc':st.a.cop=some (next,lf):=hc;unfold dI.eP;rw[hc'];simp at hq|-;omega))),λi j hi hj hij q hq hq2=> ?_,λi hi q hq hq2=> ?_,λq hq=> ?_,λhq=> ?_,by show(st.a.Ns++[N1]).length<=32;omega⟩
  ·rcases hget i X hX with⟨rfl,rfl⟩|⟨h1,h2⟩
   ·simp only[if_pos];exact⟨by show bM _ (if _ then qb else _) _ _;rw[if_pos rfl];exact Qn,hO⟩
   ·simp only[if_neg (show i≠st.a.Ns.length by omega)];exact⟨by show bM _ (if _ then qb else _) _ _;rw[if_neg (by omega)];exact(hp.lW i X h2).1.mod dz (λq hq=>hFn q (zR i h1 q hq)),(hp.lW i X h2).2⟩
  ·have hi':i<st.a.Ns.length+1:=by simpa using hi
   have hj':j<st.a.Ns.length+1:=by simpa using hj
   by_cases e1:i=st.a.Ns.length<;>by_cases e2:j=st.a.Ns.length
   ·exact hij (e1.trans e2.symm)
   ·simp only[if_pos e1]at hq;simp only[if_neg e2]at hq2;exact(hF2 q hq).1 (hff q (zR j (by omega) q hq2))
   ·simp only[if_neg e1]at hq;simp only[if_pos e2]at hq2;exact(hF2 q hq2).1 (hff q (zR i (by omega) q hq))
   ·simp only[if_neg e1]at hq;simp only[if_neg e2]at hq2;exact hp.sep i j (by omega) (by omega) hij q hq hq2
  ·have hi':i<st.a.Ns.length+1:=by simpa using hi
   by_cases e1:i=st.a.Ns.length
   ·simp only[if_pos e1]at hq;exact(hF2 q hq).1 (hff q (wS q hq2))
   ·simp only[if_neg e1]at hq;exact hp.xB i (by omega) q hq hq2
  ·rcases hin q hq with h1|h1
   ·exact hp.low q (hF▸h1)
   ·exact(hF2 q h1).2.2
  ·rcases hin _ hq with h1|h1
   ·exact hp.mb (hF▸h1)
   ·exact(hF2 _ h1).1 (bB.2 (.inl rfl))
 refine⟨_,h.aep (C.A.more st.a.Ns.length qb) v4 {st with a:={st.a with Ns:=st.a.Ns++[N1]}} dz hS ((h.aF.aF.mod dz hbn).acp (λid hid=>(aa9 (Ay id hid)).symm)) ⟨_,rfl,hP⟩ ⟨rfl, ?_⟩ ?_ ?_ (λq hq=> ?_) (λg hg=>⟨?_,λhh hq=> ?_⟩),Qn⟩
 ·exact((Met.blk h.aF.met).mod dO (λhq=>h.BF C.mb (Option.mem_toList.1 hq) (by show C.mb∈C.mb::_;simp))).ak 11 v4
 ·show(w4.setCell ⟨C.mb,11,none⟩ v4).ownsRow W0.heap.size 126 1 v4 (st.a.Ns++[N1]).length (kI (C.A.more st.a.Ns.length qb) (st.a.Ns++[N1]).length);rw[hl1,aa8];refine kG (S:=[C.mb]) hown ((Mod.refl _ w4).ak (.inl (by simp)) 11 v4) (λk hk JM=> ?_);have hk2:k=C.mb:=zj.1 JM;rcases hgr.at_ with e|⟨g,e,hgl⟩
  ·exact h.BF k (e▸hk) (by show k∈C.mb::_;simp[hk2])
  ·rw[e]at hk;have:=QP hk;omega
 ·show 1<=(st.a.Ns++[N1]).length;omega
 ·rcases hin q hq with h1|h1
  ·exact .inl h1
  ·exact .inr ⟨(hF2 q h1).2.1,(hF2 q h1).1⟩
 ·rcases hgr.at_ with e|⟨g',e,hgl⟩
  ·exact .inl (e▸hg)
  ·rw[e]at hg;have:=QP hg;exact .inr (by omega)
 ·rcases hin g hq with h1|h1
  ·have:=hlts g (hff g h1);omega
  ·have:=hA.fC g h1;omega
theorem aD.take (h:aD W0 E H C w0 G0 w F st){c:Nat×List Nat}(hc:st.a.cop=some c){w1:World}(hD:dH w1 C.A.fb C.A.fe (st.a.d+1) c.2)(hm:Mod [C.A.cb] w w1):
  ∃F',aD W0 E H {C with A:={C.A with db:=C.A.fb,eb:=C.A.fe},v:=C.v} w0 G0 ((w1.setCell ⟨C.mb,12,none⟩ (pQ C.A.fb)).setCell ⟨C.mb,13,none⟩ (.pointer none)) F' {st with a:={st.a with d:=st.a.d+1,l:=c.2,cop:=none}}:=by
 obtain⟨Fs,hF,hp⟩:=h.aF.pool;have hm2:Mod [C.A.cb,C.mb] w ((w1.setCell ⟨C.mb,12,none⟩ (pQ C.A.fb)).setCell ⟨C.mb,13,none⟩ (.pointer none)):=((hm.more (λk hk=>by simp at hk|-;exact .inl hk)).ak (.inl (by simp)) _ _).ak (.inl (by simp)) _ _
 have hmd:∀q∈[C.A.cb,C.A.fb,C.A.fe],q∈C.A.eP st.a.cop:=λq hq=>by
  unfold dI.eP;rw[hc];simp at hq|-;omega
 have wS:∀q∈C.A.eP st.a.cop,q∈F:=λq hq=>hF▸aR.2 (.inr hq);have hmb:∀q∈F,q≠C.mb:=λq hq e=>h.hp.mb h.aF.pool (show C.mb∈F from e▸hq);have afL:=(hp.cop c.1 c.2 hc).nd;simp at afL
 have hD2:dH ((w1.setCell ⟨C.mb,12,none⟩ (pQ C.A.fb)).setCell ⟨C.mb,13,none⟩ (.pointer none)) C.A.fb C.A.fe (st.a.d+1) c.2:=
  hD.mod (S:=[C.mb]) (((Mod.refl _ w1).ak (.inl (by simp)) _ _).ak (.inl (by simp)) _ _) (λhq=>hmb _ (wS _ (hmd _ (by simp))) (zj.1 hq)) (λhq=>hmb _ (wS _ (hmd _ (by simp))) (zj.1 hq))
 have hin:∀q,q∈iM ({C.A with db:=C.A.fb,eb:=C.A.fe}:dI) Fs {st.a with d:=st.a.d+1,l:=c.2,cop:=none}->q∈F:=λq hq=>by
  rcases aR.1 hq with⟨i,hi,hq2⟩|hq2
  ·exact hF▸aR.2 (.inl ⟨i,hi,hq2⟩)
  ·refine wS q (hmd q ?_);unfold dI.eP at hq2;simp at hq2|-;omega
 have acr:∀i,i<st.a.Ns.length->∀q∈Fs i,q∉[C.A.cb,C.A.fb,C.A.fe]:=λi hi q hq hq2=>hp.xB i hi q hq (hmd q hq2);have zR:∀i,i<st.a.Ns.length->∀q∈Fs i,q∈F:=λi hi q hq=>hF▸aR.2 (.inl ⟨i,hi,hq⟩)
 have hS:∀q∈[C.A.cb,C.mb],q∈C.foot F:=λq hq=>by
  simp at hq;rcases hq with rfl|rfl
  ·exact bB.2 (.inr (.inr (.inl (wS _ (hmd _ (by simp))))))
  ·exact bB.2 (.inl rfl)
 have hP:jD W0 C.mb H ({C.A with db:=C.A.fb,eb:=C.A.fe}:dI) ((w1.setCell ⟨C.mb,12,none⟩ (pQ C.A.fb)).setCell ⟨C.mb,13,none⟩ (.pointer none)) Fs {st.a with d:=st.a.d+1,l:=c.2,cop:=none}:=
  ⟨λi N hN=>⟨(hp.lW i N hN).1.mod hm2 (λq hq dS=>by
    simp at dS;rcases dS with h1|h1
    ·exact acr i (bJ hN) q hq (by simp[h1])
    ·exact hmb q (zR i (bJ hN) q hq) h1),(hp.lW i N hN).2⟩,hD2,λnext lf he=>(by cases he),hp.sep,λi hi q hq hq2=>acr i hi q hq (by unfold dI.eP at hq2;simp at hq2|-;omega),λq hq=>hp.low q (hF▸hin q hq),λhq=>hmb _ (hin _ hq) rfl,hp.zk⟩
 refine⟨_,h.upd {C.A with db:=C.A.fb,eb:=C.A.fe} C.v {st with a:={st.a with d:=st.a.d+1,l:=c.2,cop:=none}} hm2 hS (h.aF.aF.mod hm2 (λq hq dS=> ?_)) ⟨Fs,rfl,hP⟩ ⟨rfl, ?_⟩ (mZ (st:=st) h hm2 (λq hq=> ?_)) h.pos (λq hq=> .inl (hin q hq)) (λg hg=>⟨.inl hg,λhh=>by have:=(h.row.lt g hg).2;omega⟩)⟩
 ·have ha:=h.aF.apart q hq;simp at dS;rcases dS with h1|h1
  ·exact ha.1 (wS q (hmd q (by simp[h1])))
  ·exact ha.2.1 h1
 ·exact(((Met.blk h.aF.met).mod hm (λhq=>hmb _ (wS _ (hmd C.A.cb (by simp))) (zj.1 hq).symm)).ak 12 _).ak 13 _
 ·simp at hq;rcases hq with h1|h1
  ·exact .inr (.inr (wS q (hmd q (by simp[h1]))))
  ·exact .inl h1
end
end
section
variable {W0 w w0 : World} {E : Nat -> Addr} {H : Nat -> Nat} {C : iW} {F G0 : List Nat} {st : lX}
theorem Vn:(Tryz.prog.info? 126).map (λi=>(i.zero,i.size,i.bytes))=some (some (.pointer none),1,8):=by kernel_rfl
theorem Vo:sZ Tryz.prog 135 126 1 8:=BO Tryz.underlying135 Vn rfl (by decide) (by decide)
inductive Cw (H:Nat->Nat):Pool->Nat->Pool->Prop
 |take {a:Pool} {c:Nat×List Nat} (hc:a.cop=some c) (hl:c.1=a.l.length):Cw H a 32 {a with d:=a.d+1,l:=c.2,cop:=none}
 |one {a:Pool} {id:Nat} {N:Nd} {X:aC} (hN:a.Ns[id]?=some N) (hb:N.ph.busy=true) (hl:N.left=0) (ho:dY H N) (hm:N.many=1) (hk:dY H ⟨N.pfx,N.au,0,0,X,.idle⟩) (he:(Nd.mk N.pfx N.au 0 0 X .idle).ents=N.ents) (hx:X.gs.length=N.each):Cw H a id {a with Ns:=a.Ns.set id ⟨N.pfx,N.au,0,0,X,.idle⟩}
 | two {a : Pool} {id : Nat} {N : Nd} {X Y : aC} (hN : a.Ns[id]? = some N) (hb : N.ph.busy = true) (hl : N.left = 0) (ho : dY H N) (hm : N.many = 2) (hd : N.au < a.d) (hk : dY H ⟨2 * N.pfx, N.au + 1, 0, 0, X, .idle⟩) (hk2 : dY H ⟨2 * N.pfx + 1, N.au + 1, 0, 0, Y, .idle⟩)
   (he:(Nd.mk (2*N.pfx) (N.au+1) 0 0 X .idle).ents++(Nd.mk (2*N.pfx+1) (N.au+1) 0 0 Y .idle).ents=N.ents) (hx:X.gs.length=N.each) (hy:Y.gs.length=N.each):Cw H a id (a.split id ⟨2*N.pfx,N.au+1,0,0,X,.idle⟩ ⟨2*N.pfx+1,N.au+1,0,0,Y,.idle⟩)
def vD (W0:World)(E:Nat->Addr)(H:Nat->Nat)(C:iW)(w0:World)(G0:List Nat)(st:lX)(id:Nat)(w':World):Prop:=∃(A':dI) (v':Value) (F':List Nat) (a':Pool) (x':bS) (u:Nat),Cw H st.a id a'/\aD W0 E H {C with A:=A',v:=v'} w0 G0 w' F' {st with a:=a',x:=x'}/\dU st.x x' 0 u
theorem NV (h:aD W0 E H C w0 G0 w F st)(c:Nat×List Nat)(hc:st.a.cop=some c)(hl:c.1=st.a.l.length):Calls Tryz.prog 133 #[bg C.mb,.int .i64 ((32:Nat):Int)] w λe w'=>e= .returned undef/\vD W0 E H C w0 G0 st 32 w':=by
 have HC:=qd h;obtain⟨c0,c1,c11,c12,c13,c14,c15⟩:=HC.o.cells;obtain⟨Fs,hF,hp⟩:=h.aF.pool;unfold mI at c13;rw[hc]at c13;simp only[Jn,if_true]at c13;have HT:=qd (PN C.A.cb C.A.db C.A.eb C.A.fb C.A.fe st.a.d c.1 st.a.l c.2 hl w (hp.cop c.1 c.2 hc));have hcm:C.mb≠C.A.cb:=λe=>hp.mb (aR.2 (.inr (by unfold dI.eP;rw[hc];simp[e])));have HcM:=qd hcm;have BG:=qd hc;have HHl:=qd hl;clear h hF hp hcm hc hl;unfold qR jf at HT;unfold bg;go_in;go_wp2_with fail;refine HT.o.mono ?_;rintro x w1 ⟨rfl,hD,hm⟩;have HD:=qd hD;have HM:=qd hm;have hB:=(Met.blk HC.o.aF.met).mod hm (λhq=>HcM.o (zj.1 hq));have d12:w1.cell? ⟨C.mb,12,none⟩=some (pQ C.A.db):=hB.cell 12;have d13:w1.cell? ⟨C.mb,13,none⟩=some (mI C.A st.a.cop):=hB.cell 13;unfold mI at d13;have g12:w1.frozen? ⟨C.mb,12,none⟩=false:=hB.frozen 12;have g13:w1.frozen? ⟨C.mb,13,none⟩=false:=hB.frozen 13;clear c0 c1 c11 c12 c13 c14 c15 hB hD hm HT;go_wp2_with fail;refine(aaq (some ⟨C.A.fb,0,none⟩) w1).mono ?_;rintro x w2 ⟨rfl,rfl⟩;go_wp2;refine bodyPost_ret (vx rfl _ _ _) rfl ?_;obtain⟨F',hC'⟩:=HC.o.take BG.o HD.o HM.o;have hfin:vD W0 E H C w0 G0 st 32 _:=⟨_,_,F',_,st.x,0,.take BG.o HHl.o,hC',dU.refl _⟩
 first|exact⟨rfl,hfin⟩|exact hfin
theorem Qo (h:aD W0 E H C w0 G0 w F st)(id:Nat)(N:Nd)(hN:st.a.Ns[id]?=some N)(hb:N.ph.busy=true)(hl:N.left=0)(hm1:N.many=1):Calls Tryz.prog 133 #[bg C.mb,.int .i64 ((id:Nat):Int)] w λe w'=>e= .returned undef/\vD W0 E H C w0 G0 st id w':=by
 have HC:=qd h;obtain⟨c0,c1,c11,c12,c13,c14,c15⟩:=HC.o.cells;obtain⟨Fs,hF,hp⟩:=h.aF.pool;have hid:=bJ hN;have hle:=hp.zk
 have h32:¬(id:Int)=32:=by omega
 obtain⟨vb,cap,hv,hr⟩:=h.rowAt;rw[hv]at c11;have cr:=hr id hid
 have hn':(id:Int)<(st.a.Ns.length:Int):=by omega
 have hi0:(0:Int)<=(id:Int):=by omega
 obtain⟨Fi,hA,hO,hmb,hlow,hFi,hnx⟩:=h.node hN;have HE:=qd (Vf hA hO hb hl hm1);have HX:=qd hnx;have HP:=qd (And.intro hN (And.intro hb (And.intro hl (And.intro hO hm1))));have uV:=qd hmb;clear h hp hF hv hr hN hA hO hb hl hm1 hlow hFi hnx hmb hid hle;generalize st.a.Ns.length=n at*;unfold aK at HE;unfold bg;go_in;go_wp2_with fail;refine HE.o.mono ?_;rintro x w1 ⟨rfl,X,F',h1,h2,h3,h4,h5,h6⟩;obtain⟨F2,hC'⟩:=HX.o w1 F' Fi _ st.x h1 h2 (λq hq=> .inl (h5 q hq)) (HC.o.aF.met.mod h6 uV.o) h6 (λq hq=> .inr hq);have sO:=qd hC';have HE2:=qd (Cw.one (X:=X) HP.o.1 HP.o.2.1 HP.o.2.2.1 HP.o.2.2.2.1 HP.o.2.2.2.2 h2 h3 h4);clear hC' h1 h2 h3 h4 h5 h6 HE HX HP c0 c1 c11 c12 c13 c14 c15 cr;go_wp2_with fail;refine(LU none w1).mono ?_;rintro x w2 ⟨rfl,rfl⟩;go_wp2;refine bodyPost_ret (vx rfl _ _ _) rfl ?_;have hfin:vD W0 E H C w0 G0 st id _:=⟨C.A,C.v,F2,_,st.x,0,HE2.o,sO.o,dU.refl _⟩
 first|exact⟨rfl,hfin⟩|exact hfin
theorem abb (h:aD W0 E H C w0 G0 w F st)(p pd id:Nat)(h1:pd<=st.a.d)(hp:p<2^pd):Calls Tryz.prog 184 #[bg C.mb,nI p,nI pd,nI id] w λe w'=>∃n,1<=n/\e= .returned (.int .i64 ((n:Nat):Int))/\aD W0 E H C w0 G0 w' F {st with a:={st.a with l:=j6 st.a.l (dA p pd st.a.d) id (2^(st.a.d-pd)),cop:=st.a.cop.map λc=>(c.1,qV c.2 (j6 st.a.l (dA p pd st.a.d) id (2^(st.a.d-pd))) (dA p pd st.a.d) (min (dA p pd st.a.d+2^(st.a.d-pd)) c.1-dA p pd st.a.d))}}:=by
 cases hc:st.a.cop with
 |none=>have:=NT h p pd id h1 hp hc;rw[hc]at this;exact this
 |some c=>have:=NU h p pd id h1 hp c hc;rw[hc]at this;exact this
theorem Qp (h:aD W0 E H C w0 G0 w F st)(hd:fB st.a)(Ay:∀i∈st.ids,i≠st.a.Ns.length)(id:Nat)(N:Nd)(hN:st.a.Ns[id]?=some N)(hb:N.ph.busy=true)(hl:N.left=0)(hm2:N.many=2):Calls Tryz.prog 133 #[bg C.mb,.int .i64 ((id:Nat):Int)] w λe w'=>e= .returned undef/\vD W0 E H C w0 G0 st id w':=by
 have HC:=qd h;obtain⟨c0,c1,c11,c12,c13,c14,c15⟩:=HC.o.cells;obtain⟨Fs,hF,hp⟩:=h.aF.pool;have hid:=bJ hN;have hle:=hp.zk
 have h32:¬(id:Int)=32:=by omega
 obtain⟨vb,cap,hv,hr⟩:=h.rowAt;rw[hv]at c11;have cr:=hr id hid
 have hn':(id:Int)<(st.a.Ns.length:Int):=by omega
 have hi0:(0:Int)<=(id:Int):=by omega
 have hpos:=h.pos;have hfit:=hd.fit id N hN
 have hlt:N.au<st.a.d:=hd.split id N hN hb (by
  unfold Nd.many at hm2;by_cases hk:N.kind=3
  ·exact hk
  ·rw[if_neg hk]at hm2;omega)
 have Vp:st.a.Ns.length+1<=32:=by
  have hs:=(hd.X0 (N0:=⟨2*N.pfx,N.au+1,0,0,N.T,.idle⟩) (N1:=⟨2*N.pfx+1,N.au+1,0,0,N.T,.idle⟩) hN hlt ⟨rfl,rfl,rfl⟩ ⟨rfl,rfl,rfl⟩).nodes;have h5:=hp.dir.le;have h6:2^st.a.d<=2^5:=xa (by decide) h5
  have h7:(st.a.split id ⟨2*N.pfx,N.au+1,0,0,N.T,.idle⟩ ⟨2*N.pfx+1,N.au+1,0,0,N.T,.idle⟩).Ns.length=st.a.Ns.length+1:=by unfold Pool.split;simp
  have h8:(st.a.split id ⟨2*N.pfx,N.au+1,0,0,N.T,.idle⟩ ⟨2*N.pfx+1,N.au+1,0,0,N.T,.idle⟩).d=st.a.d:=rfl;rw[h7,h8]at hs;omega
 obtain⟨Fi,hA,hO,hnx⟩:=h.two hN;have HE:=qd (Vg hA hO hb hl hm2);have HX:=qd hnx;have HP:=qd (And.intro hN (And.intro hb (And.intro hl (And.intro hO (And.intro hm2 hlt)))));have agv:=qd Ay;have HH:=qd Vp;have HV:=qd hv;have HFt:=qd hfit;have hn32:st.a.Ns.length<=32:=hle;obtain⟨n,hn⟩:∃n,n=st.a.Ns.length:=⟨_,rfl⟩;rw[<-hn]at c11 hn' hn32 hpos Vp;have HN:=qd hn;clear h hp hF hv hr hN hA hO hb hl hm2 hnx hid hle hd Ay hfit hlt hn;unfold aK at HE;unfold bg;go_in;go_wp2_with fail;refine HE.o.mono ?_;rintro x w1 ⟨qb,rfl,Bo,_,X,Y,F',F2,a1,a2,a3,a4,a5,a6,a7,a8,a9,AP,Du⟩;obtain⟨Fn,b1,b2⟩:=HX.o w1 F' F2 Fi _ _ qb a1 a3 a2 a8 a9 AP Du (λq hq=>hq);have ug:=qd b1;have HA1:=qd a2;have Df:=qd b2;have HE2:=qd (Cw.two (X:=X) (Y:=Y) HP.o.1 HP.o.2.1 HP.o.2.2.1 HP.o.2.2.2.1 HP.o.2.2.2.2.1 HP.o.2.2.2.2.2 a3 a4 a5 a6 a7);have uJ:=qd a4
 have hln:(st.a.Ns.set id (Nd.mk (2*N.pfx) (N.au+1) 0 0 X .idle)).length=n:=by rw[qq,HN.o]
 have kU:=qd hln;clear b1 b2 a1 a2 a3 a4 a5 a6 a7 a8 a9 AP Du HE HX HC hln c0 c1 c11 c12 c13 c14 c15 cr;go_wp2_with fail;refine(LU (some ⟨qb,0,none⟩) w1).mono ?_;rintro x w2 ⟨rfl,rfl⟩;obtain⟨c0,c1,c11,c12,c13,c14,c15⟩:=ug.o.cells;rw[HV.o]at c11;have zD:=ug.o.row
 have hO2:w1.ownsRow W0.heap.size 126 1 C.v n (kI C.A n):=by
  have:=zD;rw[show({st with a:={st.a with Ns:=st.a.Ns.set id (Nd.mk (2*N.pfx) (N.au+1) 0 0 X .idle)}}:lX).a.Ns.length=n from kU.o]at this;exact this
 rw[HV.o,<-HN.o]at hO2;rw[<-HN.o]at c11
 have hBm:∀(V:World) (v4:Value),o9 w1 W0.heap.size C.v V v4->V.cell? ⟨C.mb,11,none⟩=some C.v/\V.frozen? ⟨C.mb,11,none⟩=false:=λV v4 hg=>by
  have hb:=(Met.blk ug.o.aF.met).mod (Qm hg) (λhq=>ug.o.BF C.mb (Option.mem_toList.1 hq) (by show C.mb∈C.mb::_;simp));exact⟨hb.cell 11,hb.frozen 11⟩
 rw[HV.o,<-HN.o]at hBm;have Gt:=qd hBm;have HV2:=qd (show C.v= .slice (some ⟨vb,0,none⟩) n cap from by rw[HV.o,HN.o]);clear zD hBm;have hlw:W0.heap.size<=w1.heap.size:=ug.o.aF.env.size;go_upto_region 5 with fail
 go_upto_region 6 with(at_builtin;refine gD rfl rfl Vo hO2 rfl rfl rfl rfl rfl (by omega) (by omega) ?_;intro v4 w4 dM iP;obtain⟨A4,c4,rfl⟩:=bq dM;obtain⟨d11,g11⟩:=Gt.o _ _ iP)
 obtain⟨F3,Dp,hA3⟩:=ug.o.grow HA1.o uJ.o Df.o (show∀i∈st.ids,i≠(st.a.Ns.set id (Nd.mk (2*N.pfx) (N.au+1) 0 0 X .idle)).length from by rw[qq];exact agv.o) (show(st.a.Ns.set id (Nd.mk (2*N.pfx) (N.au+1) 0 0 X .idle)).length+1<=32 from by rw[qq];exact HH.o) (v4:= .slice A4 (n+1) c4) (w4:=w4) (show w4.ownsRow W0.heap.size 126 1 (.slice A4 (n+1) c4) ((st.a.Ns.set id (Nd.mk (2*N.pfx) (N.au+1) 0 0 X .idle)).length+1) (kI C.A (st.a.Ns.set id (Nd.mk (2*N.pfx) (N.au+1) 0 0 X .idle)).length++[pQ qb])from by rw[kU.o];exact dM) (by rw[HV2.o];exact iP);refine aY (F:=λv=>aD W0 E H {C with A:=C.A.more (st.a.Ns.set id (Nd.mk (2*N.pfx) (N.au+1) 0 0 X .idle)).length qb,v:= .slice A4 (n+1) c4} w0 G0 v F3 {st with a:={st.a with Ns:=st.a.Ns.set id (Nd.mk (2*N.pfx) (N.au+1) 0 0 X .idle)++[Nd.mk (2*N.pfx+1) (N.au+1) 0 0 Y .idle]}}/\bM v qb F2 (Nd.mk (2*N.pfx+1) (N.au+1) 0 0 Y .idle)) ⟨Dp,hA3⟩ ?_;rintro w5 ⟨EA,Qn⟩;obtain⟨pp,hpp⟩:∃pp,pp=2*N.pfx+1:=⟨_,rfl⟩;obtain⟨dd,hdd⟩:∃dd,dd=N.au+1:=⟨_,rfl⟩;have X4:=qd (show Calls Tryz.prog 183 #[aK qb] w5 λe w'=>e= .returned (.tuple #[nI pp,nI dd])/\w5.drew=w' from by rw[hpp,hdd];exact MH Qn);have HPp:=qd hpp;have X5:=qd hdd;have zm:=qd EA;unfold aK at X4;clear c0 c1 c11 c12 c13 c14 c15 Dp hA3 dM iP d11 g11 hO2 Gt hpp hdd EA Qn;go_wp2_with fail;refine X4.o.mono ?_;rintro x w6 ⟨rfl,hd6⟩;have hb6:Below w5.heap.size w5 w6:=hd6▸(Below.refl _ _).drew;have mJ:=qd (zm.o.below hb6)
 have e11:w6.cell? ⟨C.mb,11,none⟩=some (.slice A4 (n+1) c4):=mJ.o.cells.2.2.1;have X6:=qd (mJ.o.below (Below.refl w6.heap.size w6).drew);have hfit:=HFt.o;have agw:=HP.o.2.2.2.2.2;have iV:=qd (abb X6.o pp dd n (show dd<=st.a.d from by rw[X5.o];omega) (by rw[HPp.o,X5.o,xd];omega))
 have hw1:IntKind.i64.wrap (n:Int)=(n:Int):=by rw[ZZ];omega
 have hw2:IntKind.i64.wrap ((n:Int)+1-1)=(n:Int):=by rw[show(n:Int)+1-1=(n:Int) by omega];exact hw1
 clear hd6 hb6 X4 zm mJ hfit agw;unfold bg at iV;go_wp2_with fail;refine rT (λ(w':World)=>w'.cell? ⟨C.mb,11,none⟩=some (.slice A4 (n+1) c4)) [12,13] ?_;have hHeld:=e11;refine vW 0 rfl ?_;refine vW 1 rfl ?_;refine vW 2 rfl ?_;refine vW 3 rfl ?_;refine vW 4 rfl ?_;refine vW 5 rfl ?_;refine vW 6 rfl ?_;refine vW 7 rfl ?_;refine vW 8 rfl ?_;refine nT 9 rfl λK hK=> ?_;go_simp;refine kO hK ?_;clear hK K;refine vW 10 rfl ?_;refine vW 11 rfl ?_;refine nT 12 rfl λK hK=> ?_;go_simp;refine(iV.o).mono ?_;rintro y w8 ⟨k,hk1,rfl,hC8⟩;have HC8:=qd hC8;clear hC8;have HUn:=qd (Ez HC8.o k hk1);go_wp2_with fail;refine kO hK ?_;clear hK K;refine nT 13 rfl λK hK=> ?_;go_simp;refine(HUn.o).mono ?_;rintro y w9 ⟨rfl,hC9⟩;have Gu:=qd hC9;clear hC9 HUn;go_wp2_with fail;refine kO hK ?_;clear hK K;refine aV (by kernel_rfl) ?_ _;go_wp2;go_end0;have hC9:=Gu.o;have hpp:=HPp.o;have hdd:=X5.o;have hn9:=HN.o;subst hpp hdd hn9;have hfin:vD W0 E H C w0 G0 st id _:=⟨_,_,_,_,_,k,HE2.o,hC9,tZ st.x k⟩
 first|exact⟨rfl,hfin⟩|exact hfin
end
