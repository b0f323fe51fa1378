/- A core's Len, Nodes, Depth, of, Get by their contracts. -/
import Derived.Test.YtnfjjbpmhcbelaaGreatDoorCoCG
import Derived.Test.YtnfjjbpmhcbelaaGreatDoorGaugeA
import Derived.Test.YtnfjjbpmhcbelaaGreatDoorAppAny
namespace Go.Proofs.YtnfjjbpmhcbelaaGreatDoor
set_option maxRecDepth 100000
set_option maxHeartbeats 4000000
open Go.RowKit dI
section
variable {W0 w w0 : World} {E : Nat → Addr} {H : Nat → Nat} {C : iF} {F G0 : List Nat} {st : lG}
def bg (b:Nat):Value:=pQ b
theorem Zy (h:aB W0 E H C w0 G0 w F st):Calls Tryz.prog 63 #[bg C.mb] w fun e w'=>e= .returned (nI st.len)∧w=w':=by
 have HC:=qd h;obtain⟨c0,c1,c11,c12,c13,c14,c15⟩:=HC.out.cells;clear h;unfold bg;go_in;go_wp2;go_ret;exact⟨rfl,rfl⟩
theorem sw (h:aB W0 E H C w0 G0 w F st)(hash id:Nat)(h64:hash<18446744073709551616)(hid:st.a.l.getD (dQ hash st.a.d) 0=id)(hn:id<st.a.Ns.length):Calls Tryz.prog 77 #[bg C.mb,nU hash] w fun e w'=>e= .returned (.tuple #[nI id,aL (C.A.nb id)])∧Below w.heap.size w w':=by
 have HC:=qd h;obtain⟨c0,c1,c11,c12,c13,c14,c15⟩:=HC.out.cells;obtain⟨Fs,hF,hp⟩:=h.aD.pool;have HD:=qd (acp C.A.db C.A.eb st.a.d st.a.l hash h64 w hp.dir);rw[hid]at HD;clear h hp hF;unfold iJ at HD;unfold bg aL;go_in;go_wp2_with fail;refine HD.out.mono ?_;rintro x w1 ⟨rfl,hd⟩;have hb:Below w.heap.size w w1:=hd▸(Below.refl _ _).drew;have HB:=qd hb;replace HC:=qd (HC.out.below hb);clear c0 c1 c11 c12 c13 c14 c15 hd hb HD;obtain⟨c0,c1,c11,c12,c13,c14,c15⟩:=HC.out.cells;obtain⟨vb,cap,hv,hr⟩:=HC.out.rowAt;rw[hv]at c11;have cr:=hr id hn
 have hn':(id:Int)<(st.a.Ns.length:Int):=by omega
 have hi0:(0:Int)≤(id:Int):=by omega
 generalize st.a.Ns.length=n at*;clear hv hr hid;go_wp2;go_region;go_wp2;refine bodyPost_ret (v:= .tuple #[nI id,.pointer (some ⟨C.A.nb id,0,none⟩)]) (by simp[results,Tryz.results77,go_sem]) rfl ⟨rfl,jq HB.out (Below.refl _ _).drew⟩
end
section
variable {S l' : List Nat} {qW : Option (Nat × List Nat)}
section
variable {W0 : World} {E : Nat → Addr} {H : Nat → Nat} {C : iF} {w0 : World} {G0 : List Nat} {w w' : World} {F : List Nat} {st : lG}
theorem DY (h:aB W0 E H C w0 G0 w F st)(n:Nat)(hn:1≤n):Calls Tryz.prog 117 #[.pointer (some ⟨C.mb,3,none⟩),nI n] w fun e w'=>e= .returned undef∧aB W0 E H C w0 G0 w' F {st with x:=st.x.add (cU (n:Int)) 1}:=
 (sK C.mb _ _ _ 3 st.x.all st.x.last C.m (n:Int) (by omega) w h.aD.met).mono fun e w' ⟨h1,h2,h3⟩=>⟨h1,h.met h2 h3⟩
theorem aB.sched (h:aB W0 E H C w0 G0 w F st){aK:List Nat}(hs:dX w' C.sb C.qb C.rb C.jb (C.K:Int) st.b C.A.val aK)(hm:Mod S w w')(hS:∀q∈S,q∈C.s.blocks):aB W0 E H C w0 G0 w' F {st with ids:=aK}:=by
 have hb:∀q∈S,q∉F∧q≠C.mb∧W0.heap.size≤q:=fun q hq=>h.aD.apart q (hS q hq);exact h.upd C.A C.v {st with ids:=aK} hm (fun q hq=>aZ.2 (.inr (.inl (hS q hq)))) hs (h.hp.zK h.aD.pool hm (fun q hq dK=>(hb q dK).1 hq)) (h.aD.met.mod hm (fun hq=>(hb _ hq).2.1 rfl)) (lW (st:=st) h hm (fun q hq=> .inr (.inl (hS q hq)))) h.pos (fun _ hq=> .inl hq) (yC (st:=st) h)
theorem iV.TH {mb:Nat}{A:dA}{Fs:Nat→List Nat}{a:Pool}(h:iV W0 mb H A w Fs a)(hD:dz w' A.db A.eb a.d l')(hC:∀(next:Nat) (lf:List Nat),qW=some (next,lf)→jk w' A.cb A.db A.eb A.fb A.fe a.d next l' lf)(hi:qW.isSome=a.cop.isSome)(hm:Mod S w w')(hS:∀q∈S,q∈A.dY a.cop):
  iV W0 mb H A w' Fs {a with l:=l',cop:=qW}∧gV A Fs {a with l:=l',cop:=qW}=gV A Fs a:=by
 have hd:A.dY qW=A.dY a.cop:=by unfold dA.dY;rw[hi]
 have hf:gV A Fs {a with l:=l',cop:=qW}=gV A Fs a:=by unfold gV;rw[←hd]
 refine⟨⟨fun i N hN=>⟨(h.lF i N hN).1.mod hm (fun q hq dK=>h.wE i (bG hN) q hq (hS q dK)),(h.lF i N hN).2⟩,hD,hC,h.sep,fun i hi q hq=>by show q∉A.dY qW;rw[hd];exact h.wE i hi q hq,fun q hq=>h.low q (hf▸hq),fun hq=>h.mb (hf▸hq),h.yB⟩,hf⟩
theorem aB.TH (h:aB W0 E H C w0 G0 w F st)(hD:dz w' C.A.db C.A.eb st.a.d l')(hC:∀(next:Nat) (lf:List Nat),qW=some (next,lf)→jk w' C.A.cb C.A.db C.A.eb C.A.fb C.A.fe st.a.d next l' lf)(hi:qW.isSome=st.a.cop.isSome)(hm:Mod S w w')(hS:∀q∈S,q∈C.A.dY st.a.cop):
  aB W0 E H C w0 G0 w' F {st with a:={st.a with l:=l',cop:=qW}}:=by
 obtain⟨Fs,hF,hp⟩:=h.aD.pool;obtain⟨hp',hf⟩:=hp.TH hD hC hi hm hS;have hSF:∀q∈S,q∈F:=fun q hq=>hF▸aS.2 (.inr (hS q hq))
 have hcm:cmp C {st with a:={st.a with l:=l',cop:=qW}}=cmp C st:=by unfold cmp lH;simp only;rw[hi]
 refine h.upd C.A C.v {st with a:={st.a with l:=l',cop:=qW}} hm (fun q hq=>aZ.2 (.inr (.inr (.inl (hSF q hq))))) (h.aD.aD.mod hm (fun q hq dK=>(h.aD.apart q hq).1 (hSF q dK))) ⟨Fs,hF.trans hf.symm,hp'⟩ ?_ (lW (st:=st) h hm (fun q hq=> .inr (.inr (hSF q hq)))) h.pos (fun _ hq=> .inl hq) (yC (st:=st) h);show aN w' (cmp C {st with a:={st.a with l:=l',cop:=qW}}) st.x;rw[hcm];exact h.aD.met.mod hm (fun hq=>h.hp.mb h.aD.pool (hSF _ hq))
end
theorem OW {W0:World}{E:Nat→Addr}{H:Nat→Nat}{C:iF}{w0:World}{G0:List Nat}{w:World}{F:List Nat}{st:lG}(h:aB W0 E H C w0 G0 w F st)(id:Nat)(t:TypeId)(p:Addr)(hv:C.A.val id= .iface t (.pointer (some p)))(hid:id∉st.ids)(lD:id≤1000)(hroom:st.ids.length<40):Calls Tryz.prog 113 #[bg C.mb,nI id,.iface t (.pointer (some p))] w fun e w'=>e= .returned undef∧aB W0 E H C w0 G0 w' F {st with ids:=st.ids++[id],x:=st.x.add (cU 1) 1}:=by
 have HC:=qd h;obtain⟨c0,c1,c11,c12,c13,c14,c15⟩:=HC.out.cells;have HU:=qd (DY h 1 (Nat.le_refl _));have HV:=qd hv;have kQ:=qd hid;have DZ:=qd hroom;clear h hv hid hroom;unfold bg;go_in;go_wp2_with fail;refine HU.out.mono ?_;rintro x w1 ⟨rfl,h1⟩;clear HC HU c0 c1 c11 c12 c13 c14 c15;have HC:=qd h1;clear h1;obtain⟨c0,c1,c11,c12,c13,c14,c15⟩:=HC.out.cells;have HA:=qd (V6 C.sb C.qb C.rb C.jb C.K st.b C.A.val st.ids id kQ.out lD DZ.out t p HV.out w1 HC.out.aD.aD);unfold eG at HA;go_wp2_with fail;refine HA.out.mono ?_;rintro x w2 ⟨rfl,h2,h3⟩;have yD:=qd (HC.out.sched h2 h3 (by intro q hq;simp[iF.s,SP.blocks]at hq⊢;omega));clear c0 c1 c11 c12 c13 c14 c15 HC HA h2 h3;go_wp2_with fail;refine(jw w2).mono ?_;rintro x w3 ⟨rfl,rfl⟩;go_wp2;go_end0;exact⟨rfl,yD.out⟩
theorem Mh {W0:World}{E:Nat→Addr}{H:Nat→Nat}{C:iF}{w0:World}{G0:List Nat}{w:World}{F:List Nat}{st:lG}(h:aB W0 E H C w0 G0 w F st)(p pd id:Nat)(h1:pd≤st.a.d)(hp:p<2^pd)(hc:st.a.cop=none):Calls Tryz.prog 181 #[bg C.mb,nI p,nI pd,nI id] w fun e w'=>∃n,1≤n∧e= .returned (.int .i64 ((n:Nat):Int))∧aB W0 E H C w0 G0 w' F {st with a:={st.a with l:=jG st.a.l (cB p pd st.a.d) id (2^(st.a.d-pd)),cop:=st.a.cop.map fun c=>(c.1,qz c.2 (jG st.a.l (cB p pd st.a.d) id (2^(st.a.d-pd))) (cB p pd st.a.d) (min (cB p pd st.a.d+2^(st.a.d-pd)) c.1-cB p pd st.a.d))}}:=by
 obtain⟨Fs,hF,hpo⟩:=h.aD.pool;have HC:=qd h;obtain⟨c0,c1,c11,c12,c13,c14,c15⟩:=HC.out.cells;unfold lH at c13;rw[hc]at c13;simp only[Option.isSome_none,Bool.false_eq_true,if_false]at c13;have HS:=qd (Ra C.A.db C.A.eb st.a.d st.a.l p pd h1 hp id w hpo.dir);have hpos:=pos2 (st.a.d-pd);obtain⟨n,hn⟩:∃n,n=2^(st.a.d-pd):=⟨_,rfl⟩
 have hn1:1≤n:=by omega
 have AA:=qd hc;have HN:=qd hn;have HS2:=qd (show Calls Tryz.prog 236 #[iJ C.A.db,nI p,nI pd,nI id] w fun e w'=>e= .returned (.tuple #[nI n,.nilIface])∧dz w' C.A.db C.A.eb st.a.d (jG st.a.l (cB p pd st.a.d) id (2^(st.a.d-pd)))∧Mod [C.A.eb] w w' from by rw[hn];exact HS.out);clear HS;have HS:=HS2;clear HS2 h hc hpo hF h1 hp hn hpos;unfold iJ at HS;unfold bg;go_in;go_wp2_with fail;refine HS.out.mono ?_;rintro x w1 ⟨rfl,h3,h4⟩;have yD:=qd (HC.out.TH (qW:=none) h3 (fun next lf he=>by cases he) (by rw[AA.out]) h4 (by intro q hq;unfold dA.dY;simp at hq⊢;omega));clear c0 c1 c11 c12 c13 c14 c15 h3 h4 HC HS;go_wp2_with fail;refine(uI (n:Int) w1).mono ?_;rintro x w2 ⟨rfl,rfl⟩;go_wp2;go_ret;exact⟨n,hn1,rfl,by have hh:=yD.out;rw[AA.out];exact hh⟩
theorem Mi {W0:World}{E:Nat→Addr}{H:Nat→Nat}{C:iF}{w0:World}{G0:List Nat}{w:World}{F:List Nat}{st:lG}(h:aB W0 E H C w0 G0 w F st)(p pd id:Nat)(h1:pd≤st.a.d)(hp:p<2^pd)(c:Nat×List Nat)(hc:st.a.cop=some c):Calls Tryz.prog 181 #[bg C.mb,nI p,nI pd,nI id] w fun e w'=>∃n,1≤n∧e= .returned (.int .i64 ((n:Nat):Int))∧aB W0 E H C w0 G0 w' F {st with a:={st.a with l:=jG st.a.l (cB p pd st.a.d) id (2^(st.a.d-pd)),cop:=st.a.cop.map fun c=>(c.1,qz c.2 (jG st.a.l (cB p pd st.a.d) id (2^(st.a.d-pd))) (cB p pd st.a.d) (min (cB p pd st.a.d+2^(st.a.d-pd)) c.1-cB p pd st.a.d))}}:=by
 obtain⟨Fs,hF,hpo⟩:=h.aD.pool;have HC:=qd h;obtain⟨c0,c1,c11,c12,c13,c14,c15⟩:=HC.out.cells;unfold lH at c13;rw[hc]at c13;simp only[Option.isSome_some,if_true]at c13;have HS:=qd (Qd C.A.cb C.A.db C.A.eb C.A.fb C.A.fe st.a.d c.1 st.a.l c.2 p pd id h1 hp w (hpo.cop c.1 c.2 hc));have hpos:=pos2 (st.a.d-pd);obtain⟨n,hn⟩:∃n,n=2^(st.a.d-pd)+2*(min (cB p pd st.a.d+2^(st.a.d-pd)) c.1-cB p pd st.a.d):=⟨_,rfl⟩
 have hn1:1≤n:=by omega
 have AA:=qd hc;rw[←hn]at HS;clear h hc hpo hF h1 hp hn hpos;unfold qy at HS;unfold bg;go_in;go_wp2_with fail;refine HS.out.mono ?_;rintro x w1 ⟨rfl,h3,h4⟩;have yD:=qd (HC.out.TH (qW:=some (c.1,_)) h3.old (fun next lf he=>by cases he;exact h3) (by rw[AA.out];rfl) h4 (by intro q hq;unfold dA.dY;rw[AA.out];simp at hq⊢;omega));clear c0 c1 c11 c12 c13 c14 c15 h3 h4 HC HS;go_wp2_with fail;refine(uI (n:Int) w1).mono ?_;rintro x w2 ⟨rfl,rfl⟩;go_wp2;go_ret;exact⟨n,hn1,rfl,by have hh:=yD.out;rw[AA.out];exact hh⟩
end
section
variable {id qb : Nat} {val val' : Nat → Value} {ids : List Nat} {w4 : World} {v4 : Value}
section
variable {W0 : World} {E : Nat → Addr} {H : Nat → Nat} {C : iF} {w0 : World} {G0 : List Nat} {w w' : World} {F : List Nat} {st : lG}
theorem aB.two (h:aB W0 E H C w0 G0 w F st){N:Nd}(hN:st.a.Ns[id]?=some N):∃Fi,bJ w (C.A.nb id) Fi N∧dU H N∧
  ∀(w':World) (F' F2 S:List Nat) (N0 N1:Nd) (qb:Nat),bJ w' (C.A.nb id) F' N0→dU H N0→bJ w' qb F2 N1→(∀q∈F',q∈Fi)→(∀q∈F2,q∈Fi∨w.heap.size≤q)→(∀q∈F',q∉F2)→Mod S w w'→(∀q∈S,q∈Fi)→
   ∃Fn,aB W0 E H C w0 G0 w' Fn {st with a:={st.a with Ns:=st.a.Ns.set id N0}}∧∀q∈F2,q∉C.foot Fn∧(q∈G0∨w0.heap.size≤q)∧W0.heap.size≤q:=by
 obtain⟨Fs,hF,hp⟩:=h.aD.pool;obtain⟨hA,hO⟩:=hp.lF id N hN;have hid:=bG hN;have hin:∀q∈Fs id,q∈F:=fun q hq=>hF▸aS.2 (.inl ⟨id,hid,hq⟩);refine⟨Fs id,hA,hO,fun w' F' F2 S N0 N1 qb hA0 hO0 hA1 hF' hF2 aen hm hS=> ?_⟩;have hP:=hp.node hN hA0 hO0 (fun q hq=> .inl (hF' q hq)) hm (fun q hq=> .inr (hS q hq)) h.aD.env.size h.aD.met.lt;have hS':∀q∈S,q∈F:=fun q hq=>hin q (hS q hq);have hlen:(st.a.Ns.set id N0).length=st.a.Ns.length:=List.length_set
 have aaB:∀q,q∈gV C.A (fun i=>if i=id then F' else Fs i) {st.a with Ns:=st.a.Ns.set id N0}→q∈F:=fun q hq=>by
  rcases aS.1 hq with⟨i,hi,hq2⟩|hq2
  ·have hi':i<st.a.Ns.length:=by simpa using hi
   by_cases e1:i=id
   ·simp only[if_pos e1]at hq2;exact hin q (hF' q hq2)
   ·simp only[if_neg e1]at hq2;exact hF▸aS.2 (.inl ⟨i,hi',hq2⟩)
  ·exact hF▸aS.2 (.inr hq2)
 refine⟨_,h.upd C.A C.v {st with a:={st.a with Ns:=st.a.Ns.set id N0}} hm (fun q hq=>aZ.2 (.inr (.inr (.inl (hS' q hq))))) (h.aD.aD.mod hm (fun q hq dK=>(h.aD.apart q hq).1 (hS' q dK))) ⟨_,rfl,hP⟩ (h.aD.met.mod hm (fun hq=>h.hp.mb h.aD.pool (hS' _ hq))) ?_ ?_ (fun q hq=> .inl (aaB q hq)) (fun g hg=>⟨.inl hg,fun hh=>by have:=(h.row.lt g hg).2;omega⟩),fun q hq=>⟨fun hf=> ?_, ?_, ?_⟩⟩
 ·show w'.ownsRow W0.heap.size 135 1 C.v (st.a.Ns.set id N0).length (jK C.A (st.a.Ns.set id N0).length);rw[hlen];exact lW (st:=st) h hm (fun q hq=> .inr (.inr (hS' q hq)))
 ·show 1≤(st.a.Ns.set id N0).length;rw[hlen];exact h.pos
 ·have hl:=h.gI;rcases hF2 q hq with h1|h1
  ·rcases aZ.1 hf with h2|h2|h2|h2
   ·exact h.hp.mb h.aD.pool (show C.mb∈F from h2▸hin q h1)
   ·exact(h.aD.apart q h2).1 (hin q h1)
   ·rcases aS.1 h2 with⟨i,hi,hq2⟩|hq2
    ·have hi':i<st.a.Ns.length:=by simpa using hi
     by_cases e1:i=id
     ·simp only[if_pos e1]at hq2;exact aen q hq2 hq
     ·simp only[if_neg e1]at hq2;exact hp.sep i id hi' hid e1 q hq2 h1
    ·exact hp.wE id hid q h1 hq2
   ·exact h.Az q h2 (by show q∈C.mb::(C.s.blocks++F);simp[hin q h1])
  ·rcases aZ.1 hf with h2|h2|h2|h2
   ·have:=hl q (aZ.2 (.inl h2));omega
   ·have:=hl q (aZ.2 (.inr (.inl h2)));omega
   ·have:=hl q (aZ.2 (.inr (.inr (.inl (aaB q h2)))));omega
   ·have:=hl q (aZ.2 (.inr (.inr (.inr h2))));omega
 ·rcases hF2 q hq with h1|h1
  ·exact h.sub q (aZ.2 (.inr (.inr (.inl (hin q h1)))))
  ·exact .inr (Nat.le_trans h.mod.size h1)
 ·rcases hF2 q hq with h1|h1
  ·exact h.Zw q (aZ.2 (.inr (.inr (.inl (hin q h1)))))
  ·have:=h.aD.env.size;omega
def dA.more (A:dA)(n qb:Nat):dA:={A with nb:=fun i=>if i=n then qb else A.nb i}
theorem Zz (A:dA)(n qb:Nat):jK (A.more n qb) (n+1)=jK A n++[pQ qb]:=by
 unfold jK ptrs;rw[List.range_succ,List.map_append,List.map_append];congr 1
 ·congr 1;refine List.map_congr_left fun i hi=> ?_;rw[List.mem_range]at hi;show(if i=n then qb else A.nb i)=A.nb i;rw[if_neg (by omega)]
 ·simp[dA.more]
theorem ZA {A:dA}{n:Nat}(h:id≠n):(A.more n qb).val id=A.val id:=by
 unfold dA.val dA.ja dA.more;simp only;rw[if_neg h];rfl
theorem Qh (h:∀id∈ids,val id=val' id):jA val ids=jA val' ids:=by
 funext y;unfold jA;by_cases hy:∃id∈ids,y=(id:Int)
 ·obtain⟨id,hid,rfl⟩:=hy;simp[hid,h id hid]
 ·split
  ·next hh=>first|rfl|(exfalso;simp at hh;exact hy ⟨_,hh.2,by omega⟩)|simp_all
  ·rfl
theorem dX.aaC {w:World}{sb rb jb:Nat}{k b:Int}(h:dX w sb qb rb jb k b val ids)(he:∀id∈ids,val id=val' id):dX w sb qb rb jb k b val' ids:=
 ⟨h.blk,h.DI,by rw[←Qh he];exact h.map,h.nd,h.apart⟩
theorem OX {w:World}{base:Nat}{v:Value}(h:nA w base v w4 v4):Mod v.ownBlock.toList w w4:=
 ⟨h.kr.os,h.kr.tape,h.kr.output,h.kr.size,fun k hk hn=>h.kr.block k hk (fun e=>hn (by rw[←e];simp))⟩
theorem aB.grow (h:aB W0 E H C w0 G0 w F st){F2:List Nat}{N1:Nd}(hA:bJ w qb F2 N1)(hO:dU H N1)(hF2:∀q∈F2,q∉C.foot F∧(q∈G0∨w0.heap.size≤q)∧W0.heap.size≤q)(zM:∀i∈st.ids,i≠st.a.Ns.length)(h32:st.a.Ns.length+1≤32)(hown:w4.ownsRow W0.heap.size 135 1 v4 (st.a.Ns.length+1) (jK C.A st.a.Ns.length++[pQ qb]))(hgr:nA w W0.heap.size C.v w4 v4):
  ∃F',aB W0 E H {C with A:=C.A.more st.a.Ns.length qb,v:=v4} w0 G0 (w4.setCell ⟨C.mb,11,none⟩ v4) F' {st with a:={st.a with Ns:=st.a.Ns++[N1]}}∧bJ (w4.setCell ⟨C.mb,11,none⟩ v4) qb F2 N1:=by
 obtain⟨Fs,hF,hp⟩:=h.aD.pool;have hml:C.mb<w.heap.size:=h.aD.met.lt;have ku:=OX hgr;have iR:Mod (C.mb::C.v.ownBlock.toList) w (w4.setCell ⟨C.mb,11,none⟩ v4):=(ku.more (fun k hk=>by simp at hk⊢;exact .inr hk)).ak (.inl (by simp)) 11 v4
 have hS:∀q∈C.mb::C.v.ownBlock.toList,q∈C.foot F:=fun q hq=>by
  rcases List.mem_cons.1 hq with e|e
  ·exact aZ.2 (.inl e)
  ·exact aZ.2 (.inr (.inr (.inr (by simpa using e))))
 have hlts:=h.gI
 have hFn:∀q∈F,q∉C.mb::C.v.ownBlock.toList:=fun q hq dK=>by
  rcases List.mem_cons.1 dK with e|e
  ·exact h.hp.mb h.aD.pool (show C.mb∈F from e▸hq)
  ·exact h.Az q (by simpa using e) (by show q∈C.mb::(C.s.blocks++F);simp[hq])
 have hbn:∀q∈C.s.blocks,q∉C.mb::C.v.ownBlock.toList:=fun q hq dK=>by
  rcases List.mem_cons.1 dK with e|e
  ·exact(h.aD.apart q hq).2.1 e
  ·exact h.Az q (by simpa using e) (by show q∈C.mb::(C.s.blocks++F);simp[hq])
 have aeo:∀q∈F2,q∉C.mb::C.v.ownBlock.toList:=fun q hq dK=>(hF2 q hq).1 (hS q dK);have Ct:=hA.mod iR aeo;have agb:(C.A.more st.a.Ns.length qb).dY=C.A.dY:=rfl;have zf:∀i,i<st.a.Ns.length→∀q∈Fs i,q∈F:=fun i hi q hq=>hF▸aS.2 (.inl ⟨i,hi,hq⟩);have vX:∀q∈C.A.dY st.a.cop,q∈F:=fun q hq=>hF▸aS.2 (.inr hq);have GZ:∀q∈F,q∈C.foot F:=fun q hq=>aZ.2 (.inr (.inr (.inl hq)))
 have hl1:(st.a.Ns++[N1]).length=st.a.Ns.length+1:=by simp
 have hget:∀(i:Nat) (X:Nd),(st.a.Ns++[N1])[i]?=some X→(i=st.a.Ns.length∧X=N1)∨(i<st.a.Ns.length∧st.a.Ns[i]?=some X):=fun i X hX=>by
  by_cases hi:i<st.a.Ns.length
  ·rw[List.getElem?_append_left hi]at hX;exact .inr ⟨hi,hX⟩
  ·have:=bG hX;rw[List.getElem?_append_right (by omega)]at hX
   have h0:i-st.a.Ns.length=0:=by omega
   rw[h0]at hX;cases hX;exact .inl ⟨by omega,rfl⟩
 have hin:∀q,q∈gV (C.A.more st.a.Ns.length qb) (fun i=>if i=st.a.Ns.length then F2 else Fs i) {st.a with Ns:=st.a.Ns++[N1]}→q∈F∨q∈F2:=fun q hq=>by
  rcases aS.1 hq with⟨i,hi,hq2⟩|hq2
  ·have hi':i<st.a.Ns.length+1:=by simpa using hi
   by_cases e1:i=st.a.Ns.length
   ·simp only[if_pos e1]at hq2;exact .inr hq2
   ·simp only[if_neg e1]at hq2;exact .inl (zf i (by omega) q hq2)
  ·exact .inl (vX q hq2)
 have hP:iV W0 C.mb H (C.A.more st.a.Ns.length qb) (w4.setCell ⟨C.mb,11,none⟩ v4) (fun i=>if i=st.a.Ns.length then F2 else Fs i) {st.a with Ns:=st.a.Ns++[N1]}:=by
  refine⟨fun i X hX=> ?_,hp.dir.mod iR (hFn _ (vX _ (by simp[dA.dY]))) (hFn _ (vX _ (by simp[dA.dY]))),fun next lf hc=>(hp.cop next lf hc).mod iR (fun q hq=>hFn q (vX q (by have hc':st.a.cop=some (next,lf):=hc;unfold dA.dY;rw[hc'];simp at hq⊢;omega))),fun i j hi hj hij q hq hq2=> ?_,fun i hi q hq hq2=> ?_,fun q hq=> ?_,fun hq=> ?_,by show(st.a.Ns++[N1]).length≤32;omega⟩
  ·rcases hget i X hX with⟨rfl,rfl⟩|⟨h1,h2⟩
   ·simp only[if_pos];exact⟨by show bJ _ (if _ then qb else _) _ _;rw[if_pos rfl];exact Ct,hO⟩
   ·simp only[if_neg (show i≠st.a.Ns.length by omega)];exact⟨by show bJ _ (if _ then qb else _) _ _;rw[if_neg (by omega)];exact(hp.lF i X h2).1.mod iR (fun q hq=>hFn q (zf i h1 q hq)),(hp.lF i X h2).2⟩
  ·have hi':i<st.a.Ns.length+1:=by simpa using hi
   have hj':j<st.a.Ns.length+1:=by simpa using hj
   by_cases e1:i=st.a.Ns.length<;>by_cases e2:j=st.a.Ns.length
   ·exact hij (e1.trans e2.symm)
   ·simp only[if_pos e1]at hq;simp only[if_neg e2]at hq2;exact(hF2 q hq).1 (GZ q (zf j (by omega) q hq2))
   ·simp only[if_neg e1]at hq;simp only[if_pos e2]at hq2;exact(hF2 q hq2).1 (GZ q (zf i (by omega) q hq))
   ·simp only[if_neg e1]at hq;simp only[if_neg e2]at hq2;exact hp.sep i j (by omega) (by omega) hij q hq hq2
  ·have hi':i<st.a.Ns.length+1:=by simpa using hi
   by_cases e1:i=st.a.Ns.length
   ·simp only[if_pos e1]at hq;exact(hF2 q hq).1 (GZ q (vX q hq2))
   ·simp only[if_neg e1]at hq;exact hp.wE i (by omega) q hq hq2
  ·rcases hin q hq with h1|h1
   ·exact hp.low q (hF▸h1)
   ·exact(hF2 q h1).2.2
  ·rcases hin _ hq with h1|h1
   ·exact hp.mb (hF▸h1)
   ·exact(hF2 _ h1).1 (aZ.2 (.inl rfl))
 refine⟨_,h.acE (C.A.more st.a.Ns.length qb) v4 {st with a:={st.a with Ns:=st.a.Ns++[N1]}} iR hS ((h.aD.aD.mod iR hbn).aaC (fun id hid=>(ZA (zM id hid)).symm)) ⟨_,rfl,hP⟩ ⟨rfl, ?_⟩ ?_ ?_ (fun q hq=> ?_) (fun g hg=>⟨?_,fun hh hq=> ?_⟩),Ct⟩
 ·exact((Met.blk h.aD.met).mod ku (fun hq=>h.Az C.mb (Option.mem_toList.1 hq) (by show C.mb∈C.mb::_;simp))).ak 11 v4
 ·show(w4.setCell ⟨C.mb,11,none⟩ v4).ownsRow W0.heap.size 135 1 v4 (st.a.Ns++[N1]).length (jK (C.A.more st.a.Ns.length qb) (st.a.Ns++[N1]).length);rw[hl1,Zz];refine jJ (S:=[C.mb]) hown ((Mod.refl _ w4).ak (.inl (by simp)) 11 v4) (fun k hk IX=> ?_);have hk2:k=C.mb:=List.mem_singleton.1 IX;rcases hgr.at_ with e|⟨g,e,hgl⟩
  ·exact h.Az k (e▸hk) (by show k∈C.mb::_;simp[hk2])
  ·rw[e]at hk;have:=Option.some.inj hk;omega
 ·show 1≤(st.a.Ns++[N1]).length;omega
 ·rcases hin q hq with h1|h1
  ·exact .inl h1
  ·exact .inr ⟨(hF2 q h1).2.1,(hF2 q h1).1⟩
 ·rcases hgr.at_ with e|⟨g',e,hgl⟩
  ·exact .inl (e▸hg)
  ·rw[e]at hg;have:=Option.some.inj hg;exact .inr (by omega)
 ·rcases hin g hq with h1|h1
  ·have:=hlts g (GZ g h1);omega
  ·have:=hA.gI g h1;omega
theorem aB.take (h:aB W0 E H C w0 G0 w F st){c:Nat×List Nat}(hc:st.a.cop=some c){w1:World}(hD:dz w1 C.A.fb C.A.fe (st.a.d+1) c.2)(hm:Mod [C.A.cb] w w1):
  ∃F',aB W0 E H {C with A:={C.A with db:=C.A.fb,eb:=C.A.fe},v:=C.v} w0 G0 ((w1.setCell ⟨C.mb,12,none⟩ (pQ C.A.fb)).setCell ⟨C.mb,13,none⟩ (.pointer none)) F' {st with a:={st.a with d:=st.a.d+1,l:=c.2,cop:=none}}:=by
 obtain⟨Fs,hF,hp⟩:=h.aD.pool;have hm2:Mod [C.A.cb,C.mb] w ((w1.setCell ⟨C.mb,12,none⟩ (pQ C.A.fb)).setCell ⟨C.mb,13,none⟩ (.pointer none)):=((hm.more (fun k hk=>by simp at hk⊢;exact .inl hk)).ak (.inl (by simp)) _ _).ak (.inl (by simp)) _ _
 have hmd:∀q∈[C.A.cb,C.A.fb,C.A.fe],q∈C.A.dY st.a.cop:=fun q hq=>by
  unfold dA.dY;rw[hc];simp at hq⊢;omega
 have vX:∀q∈C.A.dY st.a.cop,q∈F:=fun q hq=>hF▸aS.2 (.inr hq);have hmb:∀q∈F,q≠C.mb:=fun q hq e=>h.hp.mb h.aD.pool (show C.mb∈F from e▸hq);have adJ:=(hp.cop c.1 c.2 hc).nd;simp at adJ
 have hD2:dz ((w1.setCell ⟨C.mb,12,none⟩ (pQ C.A.fb)).setCell ⟨C.mb,13,none⟩ (.pointer none)) C.A.fb C.A.fe (st.a.d+1) c.2:=
  hD.mod (S:=[C.mb]) (((Mod.refl _ w1).ak (.inl (by simp)) _ _).ak (.inl (by simp)) _ _) (fun hq=>hmb _ (vX _ (hmd _ (by simp))) (List.mem_singleton.1 hq)) (fun hq=>hmb _ (vX _ (hmd _ (by simp))) (List.mem_singleton.1 hq))
 have hin:∀q,q∈gV ({C.A with db:=C.A.fb,eb:=C.A.fe}:dA) Fs {st.a with d:=st.a.d+1,l:=c.2,cop:=none}→q∈F:=fun q hq=>by
  rcases aS.1 hq with⟨i,hi,hq2⟩|hq2
  ·exact hF▸aS.2 (.inl ⟨i,hi,hq2⟩)
  ·refine vX q (hmd q ?_);unfold dA.dY at hq2;simp at hq2⊢;omega
 have aaD:∀i,i<st.a.Ns.length→∀q∈Fs i,q∉[C.A.cb,C.A.fb,C.A.fe]:=fun i hi q hq hq2=>hp.wE i hi q hq (hmd q hq2);have zf:∀i,i<st.a.Ns.length→∀q∈Fs i,q∈F:=fun i hi q hq=>hF▸aS.2 (.inl ⟨i,hi,hq⟩)
 have hS:∀q∈[C.A.cb,C.mb],q∈C.foot F:=fun q hq=>by
  simp at hq;rcases hq with rfl|rfl
  ·exact aZ.2 (.inr (.inr (.inl (vX _ (hmd _ (by simp))))))
  ·exact aZ.2 (.inl rfl)
 have hP:iV W0 C.mb H ({C.A with db:=C.A.fb,eb:=C.A.fe}:dA) ((w1.setCell ⟨C.mb,12,none⟩ (pQ C.A.fb)).setCell ⟨C.mb,13,none⟩ (.pointer none)) Fs {st.a with d:=st.a.d+1,l:=c.2,cop:=none}:=
  ⟨fun i N hN=>⟨(hp.lF i N hN).1.mod hm2 (fun q hq dK=>by
    simp at dK;rcases dK with h1|h1
    ·exact aaD i (bG hN) q hq (by simp[h1])
    ·exact hmb q (zf i (bG hN) q hq) h1),(hp.lF i N hN).2⟩,hD2,fun next lf he=>(by cases he),hp.sep,fun i hi q hq hq2=>aaD i hi q hq (by unfold dA.dY at hq2;simp at hq2⊢;omega),fun q hq=>hp.low q (hF▸hin q hq),fun hq=>hmb _ (hin _ hq) rfl,hp.yB⟩
 refine⟨_,h.upd {C.A with db:=C.A.fb,eb:=C.A.fe} C.v {st with a:={st.a with d:=st.a.d+1,l:=c.2,cop:=none}} hm2 hS (h.aD.aD.mod hm2 (fun q hq dK=> ?_)) ⟨Fs,rfl,hP⟩ ⟨rfl, ?_⟩ (lW (st:=st) h hm2 (fun q hq=> ?_)) h.pos (fun q hq=> .inl (hin q hq)) (fun g hg=>⟨.inl hg,fun hh=>by have:=(h.row.lt g hg).2;omega⟩)⟩
 ·have ha:=h.aD.apart q hq;simp at dK;rcases dK with h1|h1
  ·exact ha.1 (vX q (hmd q (by simp[h1])))
  ·exact ha.2.1 h1
 ·exact(((Met.blk h.aD.met).mod hm (fun hq=>hmb _ (vX _ (hmd C.A.cb (by simp))) (List.mem_singleton.1 hq).symm)).ak 12 _).ak 13 _
 ·simp at hq;rcases hq with h1|h1
  ·exact .inr (.inr (vX q (hmd q (by simp[h1]))))
  ·exact .inl h1
end
end
section
variable {W0 w w0 : World} {E : Nat → Addr} {H : Nat → Nat} {C : iF} {F G0 : List Nat} {st : lG}
theorem TI:(Tryz.prog.info? 135).map (fun i=>(i.zero,i.size,i.bytes))=some (some (.pointer none),1,8):=by kernel_rfl
theorem TJ:sH Tryz.prog 144 135 1 8:=AP Tryz.underlying144 TI rfl (by decide) (by decide)
inductive BJ (H:Nat→Nat):Pool→Nat→Pool→Prop
 |take {a:Pool} {c:Nat×List Nat} (hc:a.cop=some c) (hl:c.1=a.l.length):BJ H a 32 {a with d:=a.d+1,l:=c.2,cop:=none}
 |one {a:Pool} {id:Nat} {N:Nd} {X:aC} (hN:a.Ns[id]?=some N) (hb:N.ph.busy=true) (hl:N.left=0) (ho:dU H N) (hm:N.many=1) (hk:dU H ⟨N.pfx,N.au,0,0,X,.idle⟩) (he:(Nd.mk N.pfx N.au 0 0 X .idle).ents=N.ents) (hx:X.gs.length=N.each):BJ H a id {a with Ns:=a.Ns.set id ⟨N.pfx,N.au,0,0,X,.idle⟩}
 | two {a : Pool} {id : Nat} {N : Nd} {X Y : aC} (hN : a.Ns[id]? = some N) (hb : N.ph.busy = true) (hl : N.left = 0) (ho : dU H N) (hm : N.many = 2) (hd : N.au < a.d) (hk : dU H ⟨2 * N.pfx, N.au + 1, 0, 0, X, .idle⟩) (hk2 : dU H ⟨2 * N.pfx + 1, N.au + 1, 0, 0, Y, .idle⟩)
   (he:(Nd.mk (2*N.pfx) (N.au+1) 0 0 X .idle).ents++(Nd.mk (2*N.pfx+1) (N.au+1) 0 0 Y .idle).ents=N.ents) (hx:X.gs.length=N.each) (hy:Y.gs.length=N.each):BJ H a id (a.split id ⟨2*N.pfx,N.au+1,0,0,X,.idle⟩ ⟨2*N.pfx+1,N.au+1,0,0,Y,.idle⟩)
def uN (W0:World)(E:Nat→Addr)(H:Nat→Nat)(C:iF)(w0:World)(G0:List Nat)(st:lG)(id:Nat)(w':World):Prop:=∃(A':dA) (v':Value) (F':List Nat) (a':Pool) (x':bL) (u:Nat),BJ H st.a id a'∧aB W0 E H {C with A:=A',v:=v'} w0 G0 w' F' {st with a:=a',x:=x'}∧dL st.x x' 0 u
theorem Mj (h:aB W0 E H C w0 G0 w F st)(c:Nat×List Nat)(hc:st.a.cop=some c)(hl:c.1=st.a.l.length):Calls Tryz.prog 118 #[bg C.mb,.int .i64 ((32:Nat):Int)] w fun e w'=>e= .returned undef∧uN W0 E H C w0 G0 st 32 w':=by
 have HC:=qd h;obtain⟨c0,c1,c11,c12,c13,c14,c15⟩:=HC.out.cells;obtain⟨Fs,hF,hp⟩:=h.aD.pool;unfold lH at c13;rw[hc]at c13;simp only[Option.isSome_some,if_true]at c13;have HT:=qd (Oq C.A.cb C.A.db C.A.eb C.A.fb C.A.fe st.a.d c.1 st.a.l c.2 hl w (hp.cop c.1 c.2 hc));have hcm:C.mb≠C.A.cb:=fun e=>hp.mb (aS.2 (.inr (by unfold dA.dY;rw[hc];simp[e])));have HcM:=qd hcm;have AA:=qd hc;have HHl:=qd hl;clear h hF hp hcm hc hl;unfold qy iJ at HT;unfold bg;go_in;go_wp2_with fail;refine HT.out.mono ?_;rintro x w1 ⟨rfl,hD,hm⟩;have HD:=qd hD;have HM:=qd hm;have hB:=(Met.blk HC.out.aD.met).mod hm (fun hq=>HcM.out (List.mem_singleton.1 hq));have d12:w1.cell? ⟨C.mb,12,none⟩=some (pQ C.A.db):=hB.cell 12;have d13:w1.cell? ⟨C.mb,13,none⟩=some (lH C.A st.a.cop):=hB.cell 13;unfold lH at d13;have g12:w1.frozen? ⟨C.mb,12,none⟩=false:=hB.frozen 12;have g13:w1.frozen? ⟨C.mb,13,none⟩=false:=hB.frozen 13;clear c0 c1 c11 c12 c13 c14 c15 hB hD hm HT;go_wp2_with fail;refine(YQ (some ⟨C.A.fb,0,none⟩) w1).mono ?_;rintro x w2 ⟨rfl,rfl⟩;go_wp2;refine bodyPost_ret (results_none rfl _ _ _) rfl ?_;obtain⟨F',hC'⟩:=HC.out.take AA.out HD.out HM.out;have hfin:uN W0 E H C w0 G0 st 32 _:=⟨_,_,F',_,st.x,0,.take AA.out HHl.out,hC',dL.refl _⟩
 first|exact⟨rfl,hfin⟩|exact hfin
theorem OY (h:aB W0 E H C w0 G0 w F st)(id:Nat)(N:Nd)(hN:st.a.Ns[id]?=some N)(hb:N.ph.busy=true)(hl:N.left=0)(hm1:N.many=1):Calls Tryz.prog 118 #[bg C.mb,.int .i64 ((id:Nat):Int)] w fun e w'=>e= .returned undef∧uN W0 E H C w0 G0 st id w':=by
 have HC:=qd h;obtain⟨c0,c1,c11,c12,c13,c14,c15⟩:=HC.out.cells;obtain⟨Fs,hF,hp⟩:=h.aD.pool;have hid:=bG hN;have hle:=hp.yB
 have h32:¬(id:Int)=32:=by omega
 obtain⟨vb,cap,hv,hr⟩:=h.rowAt;rw[hv]at c11;have cr:=hr id hid
 have hn':(id:Int)<(st.a.Ns.length:Int):=by omega
 have hi0:(0:Int)≤(id:Int):=by omega
 obtain⟨Fi,hA,hO,hmb,hlow,hFi,hnx⟩:=h.node hN;have HE:=qd (Tv hA hO hb hl hm1);have HX:=qd hnx;have HP:=qd (And.intro hN (And.intro hb (And.intro hl (And.intro hO hm1))));have Ro:=qd hmb;clear h hp hF hv hr hN hA hO hb hl hm1 hlow hFi hnx hmb hid hle;generalize st.a.Ns.length=n at*;unfold aL at HE;unfold bg;go_in;go_wp2_with fail;refine HE.out.mono ?_;rintro x w1 ⟨rfl,X,F',h1,h2,h3,h4,h5,h6⟩;obtain⟨F2,hC'⟩:=HX.out w1 F' Fi _ st.x h1 h2 (fun q hq=> .inl (h5 q hq)) (HC.out.aD.met.mod h6 Ro.out) h6 (fun q hq=> .inr hq);have yD:=qd hC';have HE2:=qd (BJ.one (X:=X) HP.out.1 HP.out.2.1 HP.out.2.2.1 HP.out.2.2.2.1 HP.out.2.2.2.2 h2 h3 h4);clear hC' h1 h2 h3 h4 h5 h6 HE HX HP c0 c1 c11 c12 c13 c14 c15 cr;go_wp2_with fail;refine(KF none w1).mono ?_;rintro x w2 ⟨rfl,rfl⟩;go_wp2;refine bodyPost_ret (results_none rfl _ _ _) rfl ?_;have hfin:uN W0 E H C w0 G0 st id _:=⟨C.A,C.v,F2,_,st.x,0,HE2.out,yD.out,dL.refl _⟩
 first|exact⟨rfl,hfin⟩|exact hfin
theorem ZB (h:aB W0 E H C w0 G0 w F st)(p pd id:Nat)(h1:pd≤st.a.d)(hp:p<2^pd):Calls Tryz.prog 181 #[bg C.mb,nI p,nI pd,nI id] w fun e w'=>∃n,1≤n∧e= .returned (.int .i64 ((n:Nat):Int))∧aB W0 E H C w0 G0 w' F {st with a:={st.a with l:=jG st.a.l (cB p pd st.a.d) id (2^(st.a.d-pd)),cop:=st.a.cop.map fun c=>(c.1,qz c.2 (jG st.a.l (cB p pd st.a.d) id (2^(st.a.d-pd))) (cB p pd st.a.d) (min (cB p pd st.a.d+2^(st.a.d-pd)) c.1-cB p pd st.a.d))}}:=by
 cases hc:st.a.cop with
 |none=>have:=Mh h p pd id h1 hp hc;rw[hc]at this;exact this
 |some c=>have:=Mi h p pd id h1 hp c hc;rw[hc]at this;exact this
theorem OZ (h:aB W0 E H C w0 G0 w F st)(hd:eF st.a)(zM:∀i∈st.ids,i≠st.a.Ns.length)(id:Nat)(N:Nd)(hN:st.a.Ns[id]?=some N)(hb:N.ph.busy=true)(hl:N.left=0)(hm2:N.many=2):Calls Tryz.prog 118 #[bg C.mb,.int .i64 ((id:Nat):Int)] w fun e w'=>e= .returned undef∧uN W0 E H C w0 G0 st id w':=by
 have HC:=qd h;obtain⟨c0,c1,c11,c12,c13,c14,c15⟩:=HC.out.cells;obtain⟨Fs,hF,hp⟩:=h.aD.pool;have hid:=bG hN;have hle:=hp.yB
 have h32:¬(id:Int)=32:=by omega
 obtain⟨vb,cap,hv,hr⟩:=h.rowAt;rw[hv]at c11;have cr:=hr id hid
 have hn':(id:Int)<(st.a.Ns.length:Int):=by omega
 have hi0:(0:Int)≤(id:Int):=by omega
 have hpos:=h.pos;have hfit:=hd.fit id N hN
 have hlt:N.au<st.a.d:=hd.split id N hN hb (by
  unfold Nd.many at hm2;by_cases hk:N.kind=3
  ·exact hk
  ·rw[if_neg hk]at hm2;omega)
 have TK:st.a.Ns.length+1≤32:=by
  have hs:=(hd.Wt (N0:=⟨2*N.pfx,N.au+1,0,0,N.T,.idle⟩) (N1:=⟨2*N.pfx+1,N.au+1,0,0,N.T,.idle⟩) hN hlt ⟨rfl,rfl,rfl⟩ ⟨rfl,rfl,rfl⟩).nodes;have h5:=hp.dir.le;have h6:2^st.a.d≤2^5:=Nat.pow_le_pow_right (by decide) h5
  have h7:(st.a.split id ⟨2*N.pfx,N.au+1,0,0,N.T,.idle⟩ ⟨2*N.pfx+1,N.au+1,0,0,N.T,.idle⟩).Ns.length=st.a.Ns.length+1:=by unfold Pool.split;simp
  have h8:(st.a.split id ⟨2*N.pfx,N.au+1,0,0,N.T,.idle⟩ ⟨2*N.pfx+1,N.au+1,0,0,N.T,.idle⟩).d=st.a.d:=rfl;rw[h7,h8]at hs;omega
 obtain⟨Fi,hA,hO,hnx⟩:=h.two hN;have HE:=qd (Tw hA hO hb hl hm2);have HX:=qd hnx;have HP:=qd (And.intro hN (And.intro hb (And.intro hl (And.intro hO (And.intro hm2 hlt)))));have aep:=qd zM;have HH:=qd TK;have HV:=qd hv;have HFt:=qd hfit;have hn32:st.a.Ns.length≤32:=hle;obtain⟨n,hn⟩:∃n,n=st.a.Ns.length:=⟨_,rfl⟩;rw[←hn]at c11 hn' hn32 hpos TK;have HN:=qd hn;clear h hp hF hv hr hN hA hO hb hl hm2 hnx hid hle hd zM hfit hlt hn;unfold aL at HE;unfold bg;go_in;go_wp2_with fail;refine HE.out.mono ?_;rintro x w1 ⟨qb,rfl,Aj,_,X,Y,F',F2,a1,a2,a3,a4,a5,a6,a7,a8,a9,zQ,Cx⟩;obtain⟨Fn,b1,b2⟩:=HX.out w1 F' F2 Fi _ _ qb a1 a3 a2 a8 a9 zQ Cx (fun q hq=>hq);have wO:=qd b1;have HA1:=qd a2;have NM:=qd b2;have HE2:=qd (BJ.two (X:=X) (Y:=Y) HP.out.1 HP.out.2.1 HP.out.2.2.1 HP.out.2.2.2.1 HP.out.2.2.2.2.1 HP.out.2.2.2.2.2 a3 a4 a5 a6 a7);have Cc:=qd a4
 have hln:(st.a.Ns.set id (Nd.mk (2*N.pfx) (N.au+1) 0 0 X .idle)).length=n:=by rw[List.length_set,HN.out]
 have uq:=qd hln;clear b1 b2 a1 a2 a3 a4 a5 a6 a7 a8 a9 zQ Cx HE HX HC hln c0 c1 c11 c12 c13 c14 c15 cr;go_wp2_with fail;refine(KF (some ⟨qb,0,none⟩) w1).mono ?_;rintro x w2 ⟨rfl,rfl⟩;obtain⟨c0,c1,c11,c12,c13,c14,c15⟩:=wO.out.cells;rw[HV.out]at c11;have yQ:=wO.out.row
 have hO2:w1.ownsRow W0.heap.size 135 1 C.v n (jK C.A n):=by
  have:=yQ;rw[show({st with a:={st.a with Ns:=st.a.Ns.set id (Nd.mk (2*N.pfx) (N.au+1) 0 0 X .idle)}}:lG).a.Ns.length=n from uq.out]at this;exact this
 rw[HV.out,←HN.out]at hO2;rw[←HN.out]at c11
 have hBm:∀(V:World) (v4:Value),nA w1 W0.heap.size C.v V v4→V.cell? ⟨C.mb,11,none⟩=some C.v∧V.frozen? ⟨C.mb,11,none⟩=false:=fun V v4 hg=>by
  have hb:=(Met.blk wO.out.aD.met).mod (OX hg) (fun hq=>wO.out.Az C.mb (Option.mem_toList.1 hq) (by show C.mb∈C.mb::_;simp));exact⟨hb.cell 11,hb.frozen 11⟩
 rw[HV.out,←HN.out]at hBm;have FC:=qd hBm;have HV2:=qd (show C.v= .slice (some ⟨vb,0,none⟩) n cap from by rw[HV.out,HN.out]);clear yQ hBm;have Vg:W0.heap.size≤w1.heap.size:=wO.out.aD.env.size;go_upto_region 5 with fail
 go_upto_region 6 with(at_builtin;refine iK rfl rfl TJ hO2 rfl rfl rfl rfl rfl (by omega) (by omega) ?_;intro v4 w4 dG ig;obtain⟨A4,c4,rfl⟩:=bA dG;obtain⟨d11,g11⟩:=FC.out _ _ ig)
 obtain⟨F3,Cu,hA3⟩:=wO.out.grow HA1.out Cc.out NM.out (show∀i∈st.ids,i≠(st.a.Ns.set id (Nd.mk (2*N.pfx) (N.au+1) 0 0 X .idle)).length from by rw[List.length_set];exact aep.out) (show(st.a.Ns.set id (Nd.mk (2*N.pfx) (N.au+1) 0 0 X .idle)).length+1≤32 from by rw[List.length_set];exact HH.out) (v4:= .slice A4 (n+1) c4) (w4:=w4) (show w4.ownsRow W0.heap.size 135 1 (.slice A4 (n+1) c4) ((st.a.Ns.set id (Nd.mk (2*N.pfx) (N.au+1) 0 0 X .idle)).length+1) (jK C.A (st.a.Ns.set id (Nd.mk (2*N.pfx) (N.au+1) 0 0 X .idle)).length++[pQ qb])from by rw[uq.out];exact dG) (by rw[HV2.out];exact ig);refine bV (F:=fun v=>aB W0 E H {C with A:=C.A.more (st.a.Ns.set id (Nd.mk (2*N.pfx) (N.au+1) 0 0 X .idle)).length qb,v:= .slice A4 (n+1) c4} w0 G0 v F3 {st with a:={st.a with Ns:=st.a.Ns.set id (Nd.mk (2*N.pfx) (N.au+1) 0 0 X .idle)++[Nd.mk (2*N.pfx+1) (N.au+1) 0 0 Y .idle]}}∧bJ v qb F2 (Nd.mk (2*N.pfx+1) (N.au+1) 0 0 Y .idle)) ⟨Cu,hA3⟩ ?_;rintro w5 ⟨D5,Ct⟩;obtain⟨pp,hpp⟩:∃pp,pp=2*N.pfx+1:=⟨_,rfl⟩;obtain⟨dd,hdd⟩:∃dd,dd=N.au+1:=⟨_,rfl⟩;have Wv:=qd (show Calls Tryz.prog 180 #[aL qb] w5 fun e w'=>e= .returned (.tuple #[nI pp,nI dd])∧w5.drew=w' from by rw[hpp,hdd];exact Le Ct);have Ww:=qd hpp;have Wx:=qd hdd;have yE:=qd D5;unfold aL at Wv;clear c0 c1 c11 c12 c13 c14 c15 Cu hA3 dG ig d11 g11 hO2 FC hpp hdd D5 Ct;go_wp2_with fail;refine Wv.out.mono ?_;rintro x w6 ⟨rfl,hd6⟩;have hb6:Below w5.heap.size w5 w6:=hd6▸(Below.refl _ _).drew;have lI:=qd (yE.out.below hb6)
 have e11:w6.cell? ⟨C.mb,11,none⟩=some (.slice A4 (n+1) c4):=lI.out.cells.2.2.1;have Wy:=qd (lI.out.below (Below.refl w6.heap.size w6).drew);have hfit:=HFt.out;have aer:=HP.out.2.2.2.2.2;have lC:=qd (ZB Wy.out pp dd n (show dd≤st.a.d from by rw[Wx.out];omega) (by rw[Ww.out,Wx.out,Nat.pow_succ];omega))
 have hw1:IntKind.i64.wrap (n:Int)=(n:Int):=by rw[IntKind.wrap_i64];omega
 have hw2:IntKind.i64.wrap ((n:Int)+1-1)=(n:Int):=by rw[show(n:Int)+1-1=(n:Int) by omega];exact hw1
 clear hd6 hb6 Wv yE lI hfit aer;unfold bg at lC;go_wp2_with fail;refine rT (fun(w':World)=>w'.cell? ⟨C.mb,11,none⟩=some (.slice A4 (n+1) c4)) [12,13] ?_;have hHeld:=e11;refine vW 0 rfl ?_;refine vW 1 rfl ?_;refine vW 2 rfl ?_;refine vW 3 rfl ?_;refine vW 4 rfl ?_;refine vW 5 rfl ?_;refine vW 6 rfl ?_;refine vW 7 rfl ?_;refine vW 8 rfl ?_;refine nT 9 rfl fun K hK=> ?_;go_simp;refine kO hK ?_;clear hK K;refine vW 10 rfl ?_;refine vW 11 rfl ?_;refine nT 12 rfl fun K hK=> ?_;go_simp;refine(lC.out).mono ?_;rintro y w8 ⟨k,hk1,rfl,hC8⟩;have HC8:=qd hC8;clear hC8;have HUn:=qd (DY HC8.out k hk1);go_wp2_with fail;refine kO hK ?_;clear hK K;refine nT 13 rfl fun K hK=> ?_;go_simp;refine(HUn.out).mono ?_;rintro y w9 ⟨rfl,hC9⟩;have FD:=qd hC9;clear hC9 HUn;go_wp2_with fail;refine kO hK ?_;clear hK K;refine aR (by kernel_rfl) ?_ _;go_wp2;go_end0;have hC9:=FD.out;have hpp:=Ww.out;have hdd:=Wx.out;have Ik:=HN.out;subst hpp hdd Ik;have hfin:uN W0 E H C w0 G0 st id _:=⟨_,_,_,_,_,k,HE2.out,hC9,tH st.x k⟩
 first|exact⟨rfl,hfin⟩|exact hfin
end
end Go.Proofs.YtnfjjbpmhcbelaaGreatDoor
