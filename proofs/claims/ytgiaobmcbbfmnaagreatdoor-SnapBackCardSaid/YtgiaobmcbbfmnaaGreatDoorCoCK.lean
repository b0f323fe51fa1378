/- A core's Len, Nodes, Depth, of, Get by their contracts. -/
import Derived.Test.YtgiaobmcbbfmnaaGreatDoorCoCG
import Derived.Test.YtgiaobmcbbfmnaaGreatDoorSq
import Derived.Test.YtgiaobmcbbfmnaaGreatDoorSqT
namespace Go.Proofs.YtgiaobmcbbfmnaaGreatDoor
set_option maxRecDepth 100000
set_option maxHeartbeats 4000000
open Go.RowKit dw
section
variable {W0 w w0 : World} {E : Nat → Addr} {H : Nat → Nat} {C : fA} {F G0 : List Nat} {st : mK}
def bL (b:Nat):Value:= .pointer (some ⟨b,0,none⟩)
theorem ZR (h:aC W0 E H C w0 G0 w F st):Calls Tryz.prog 58 #[bL C.mb] w fun e w'=>e= .returned (.int .i64 (st.len:Int))∧w=w':=by
 have HC:=qd h;obtain⟨c0,c1,c11,c12,c13,c14,c15⟩:=HC.out.cells;clear h;unfold bL;go_in;go_wp2;go_ret;exact⟨rfl,rfl⟩
theorem AU (h:aC W0 E H C w0 G0 w F st)(hash id:Nat)(h64:hash<18446744073709551616)(hid:st.a.l.getD (dX hash st.a.d) 0=id)(hn:id<st.a.Ns.length):Calls Tryz.prog 69 #[bL C.mb,.int .u64 (hash:Int)] w fun e w'=>e= .returned (.tuple #[.int .i64 (id:Int),aQ (C.A.nb id)])∧Below w.heap.size w w':=by
 have HC:=qd h;obtain⟨c0,c1,c11,c12,c13,c14,c15⟩:=HC.out.cells;obtain⟨Fs,hF,hp⟩:=h.aB.pool;have HD:=qd (acw C.A.db C.A.eb st.a.d st.a.l hash h64 w hp.dir);rw[hid]at HD;clear h hp hF;unfold iC at HD;unfold bL aQ;go_in;go_wp2_with fail;refine HD.out.mono ?_;rintro x w1 ⟨rfl,hd⟩;have hb:Below w.heap.size w w1:=hd▸(Below.refl _ _).drew;have HB:=qd hb;replace HC:=qd (HC.out.below hb);clear c0 c1 c11 c12 c13 c14 c15 hd hb HD;obtain⟨c0,c1,c11,c12,c13,c14,c15⟩:=HC.out.cells;obtain⟨vb,cap,hv,hr⟩:=HC.out.rowAt;rw[hv]at c11;have cr:=hr id hn
 have hn':(id:Int)<(st.a.Ns.length:Int):=by omega
 have hi0:(0:Int)≤(id:Int):=by omega
 generalize st.a.Ns.length=n at*;clear hv hr hid;go_wp2;go_region;go_wp2;refine bodyPost_ret (v:= .tuple #[.int .i64 (id:Int),.pointer (some ⟨C.A.nb id,0,none⟩)]) (by simp[results,Tryz.results69,go_sem]) rfl ⟨rfl,yG HB.out (Below.refl _ _).drew⟩
end
section
variable {S l' : List Nat} {qO : Option (Nat × List Nat)}
section
variable {W0 : World} {E : Nat → Addr} {H : Nat → Nat} {C : fA} {w0 : World} {G0 : List Nat} {w w' : World} {F : List Nat} {st : mK}
theorem rU (h:aC W0 E H C w0 G0 w F st)(n:Nat)(hn:1≤n):Calls Tryz.prog 108 #[.pointer (some ⟨C.mb,3,none⟩),.int .i64 (n:Int)] w fun e w'=>e= .returned undef∧aC W0 E H C w0 G0 w' F {st with x:=st.x.add (cU (n:Int)) 1}:=
 (sD C.mb _ _ _ 3 st.x.all st.x.last C.m (n:Int) (by omega) w h.aB.met).mono fun e w' ⟨h1,h2,h3⟩=>⟨h1,h.met h2 h3⟩
theorem aC.sched (h:aC W0 E H C w0 G0 w F st){aO:List Nat}(hs:dS w' C.sb C.qb C.rb C.jb (C.K:Int) st.b C.A.val aO)(hm:Mod S w w')(hS:∀q∈S,q∈C.s.blocks):aC W0 E H C w0 G0 w' F {st with ids:=aO}:=by
 have hb:∀q∈S,q∉F∧q≠C.mb∧W0.heap.size≤q:=fun q hq=>h.aB.apart q (hS q hq);exact h.upd C.A C.v {st with ids:=aO} hm (fun q hq=>aS.2 (.inr (.inl (hS q hq)))) hs (h.hp.zN h.aB.pool hm (fun q hq dL=>(hb q dL).1 hq)) (h.aB.met.mod hm (fun hq=>(hb _ hq).2.1 rfl)) (lK (st:=st) h hm (fun q hq=> .inr (.inl (hS q hq)))) h.pos (fun _ hq=> .inl hq) (yK (st:=st) h)
theorem iO.Uj {mb:Nat}{A:bY}{Fs:Nat→List Nat}{a:Pool}(h:iO W0 mb H A w Fs a)(hD:cu w' A.db A.eb a.d l')(hC:∀(next:Nat) (lf:List Nat),qO=some (next,lf)→iX w' A.cb A.db A.eb A.fb A.fe a.d next l' lf)(hi:qO.isSome=a.cop.isSome)(hm:Mod S w w')(hS:∀q∈S,q∈A.dV a.cop):
  iO W0 mb H A w' Fs {a with l:=l',cop:=qO}∧gN A Fs {a with l:=l',cop:=qO}=gN A Fs a:=by
 have hd:A.dV qO=A.dV a.cop:=by unfold bY.dV;rw[hi]
 have hf:gN A Fs {a with l:=l',cop:=qO}=gN A Fs a:=by unfold gN;rw[←hd]
 refine⟨⟨fun i N hN=>⟨(h.lu i N hN).1.mod hm (fun q hq dL=>h.wH i (bC hN) q hq (hS q dL)),(h.lu i N hN).2⟩,hD,hC,h.sep,fun i hi q hq=>by show q∉A.dV qO;rw[hd];exact h.wH i hi q hq,fun q hq=>h.low q (hf▸hq),fun hq=>h.mb (hf▸hq),h.yJ⟩,hf⟩
theorem aC.Uj (h:aC W0 E H C w0 G0 w F st)(hD:cu w' C.A.db C.A.eb st.a.d l')(hC:∀(next:Nat) (lf:List Nat),qO=some (next,lf)→iX w' C.A.cb C.A.db C.A.eb C.A.fb C.A.fe st.a.d next l' lf)(hi:qO.isSome=st.a.cop.isSome)(hm:Mod S w w')(hS:∀q∈S,q∈C.A.dV st.a.cop):
  aC W0 E H C w0 G0 w' F {st with a:={st.a with l:=l',cop:=qO}}:=by
 obtain⟨Fs,hF,hp⟩:=h.aB.pool;obtain⟨hp',hf⟩:=hp.Uj hD hC hi hm hS;have hSF:∀q∈S,q∈F:=fun q hq=>hF▸aK.2 (.inr (hS q hq))
 have hcm:cmp C {st with a:={st.a with l:=l',cop:=qO}}=cmp C st:=by unfold cmp lC;simp only;rw[hi]
 refine h.upd C.A C.v {st with a:={st.a with l:=l',cop:=qO}} hm (fun q hq=>aS.2 (.inr (.inr (.inl (hSF q hq))))) (h.aB.aB.mod hm (fun q hq dL=>(h.aB.apart q hq).1 (hSF q dL))) ⟨Fs,hF.trans hf.symm,hp'⟩ ?_ (lK (st:=st) h hm (fun q hq=> .inr (.inr (hSF q hq)))) h.pos (fun _ hq=> .inl hq) (yK (st:=st) h);show aP w' (cmp C {st with a:={st.a with l:=l',cop:=qO}}) st.x;rw[hcm];exact h.aB.met.mod hm (fun hq=>h.hp.mb h.aB.pool (hSF _ hq))
end
theorem PO {W0:World}{E:Nat→Addr}{H:Nat→Nat}{C:fA}{w0:World}{G0:List Nat}{w:World}{F:List Nat}{st:mK}(h:aC W0 E H C w0 G0 w F st)(id:Nat)(t:TypeId)(p:Addr)(hv:C.A.val id= .iface t (.pointer (some p)))(hid:id∉st.ids)(jD:id≤1000)(hroom:st.ids.length<40):Calls Tryz.prog 104 #[bL C.mb,.int .i64 (id:Int),.iface t (.pointer (some p))] w fun e w'=>e= .returned undef∧aC W0 E H C w0 G0 w' F {st with ids:=st.ids++[id],x:=st.x.add (cU 1) 1}:=by
 have HC:=qd h;obtain⟨c0,c1,c11,c12,c13,c14,c15⟩:=HC.out.cells;have HU:=qd (rU h 1 (Nat.le_refl _));have HV:=qd hv;have p8:=qd hid;have jN:=qd hroom;clear h hv hid hroom;unfold bL;go_in;go_wp2_with fail;refine HU.out.mono ?_;rintro x w1 ⟨rfl,h1⟩;clear HC HU c0 c1 c11 c12 c13 c14 c15;have HC:=qd h1;clear h1;obtain⟨c0,c1,c11,c12,c13,c14,c15⟩:=HC.out.cells;have HA:=qd (WM C.sb C.qb C.rb C.jb C.K st.b C.A.val st.ids id p8.out jD jN.out t p HV.out w1 HC.out.aB.aB);unfold eO at HA;go_wp2_with fail;refine HA.out.mono ?_;rintro x w2 ⟨rfl,h2,h3⟩;have mM:=qd (HC.out.sched h2 h3 (by intro q hq;simp[fA.s,SP.blocks]at hq⊢;omega));clear c0 c1 c11 c12 c13 c14 c15 HC HA h2 h3;go_wp2_with fail;refine(ji w2).mono ?_;rintro x w3 ⟨rfl,rfl⟩;go_wp2;go_end0;exact⟨rfl,mM.out⟩
theorem MO {W0:World}{E:Nat→Addr}{H:Nat→Nat}{C:fA}{w0:World}{G0:List Nat}{w:World}{F:List Nat}{st:mK}(h:aC W0 E H C w0 G0 w F st)(p pd id:Nat)(h1:pd≤st.a.d)(hp:p<2^pd)(hc:st.a.cop=none):Calls Tryz.prog 171 #[bL C.mb,.int .i64 (p:Int),.int .i64 (pd:Int),.int .i64 (id:Int)] w fun e w'=>∃n,1≤n∧e= .returned (.int .i64 ((n:Nat):Int))∧aC W0 E H C w0 G0 w' F {st with a:={st.a with l:=jw st.a.l (bU p pd st.a.d) id (2^(st.a.d-pd)),cop:=st.a.cop.map fun c=>(c.1,oV c.2 (jw st.a.l (bU p pd st.a.d) id (2^(st.a.d-pd))) (bU p pd st.a.d) (min (bU p pd st.a.d+2^(st.a.d-pd)) c.1-bU p pd st.a.d))}}:=by
 obtain⟨Fs,hF,hpo⟩:=h.aB.pool;have HC:=qd h;obtain⟨c0,c1,c11,c12,c13,c14,c15⟩:=HC.out.cells;unfold lC at c13;rw[hc]at c13;simp only[Option.isSome_none,Bool.false_eq_true,if_false]at c13;have HS:=qd (RQ C.A.db C.A.eb st.a.d st.a.l p pd h1 hp id w hpo.dir);have hpos:=pos2 (st.a.d-pd);obtain⟨n,hn⟩:∃n,n=2^(st.a.d-pd):=⟨_,rfl⟩
 have hn1:1≤n:=by omega
 have AV:=qd hc;have HN:=qd hn;have HS2:=qd (show Calls Tryz.prog 226 #[iC C.A.db,.int .i64 (p:Int),.int .i64 (pd:Int),.int .i64 (id:Int)] w fun e w'=>e= .returned (.tuple #[.int .i64 (n:Int),.nilIface])∧cu w' C.A.db C.A.eb st.a.d (jw st.a.l (bU p pd st.a.d) id (2^(st.a.d-pd)))∧Mod [C.A.eb] w w' from by rw[hn];exact HS.out);clear HS;have HS:=HS2;clear HS2 h hc hpo hF h1 hp hn hpos;unfold iC at HS;unfold bL;go_in;go_wp2_with fail;refine HS.out.mono ?_;rintro x w1 ⟨rfl,h3,h4⟩;have mM:=qd (HC.out.Uj (qO:=none) h3 (fun next lf he=>by cases he) (by rw[AV.out]) h4 (by intro q hq;unfold bY.dV;simp at hq⊢;omega));clear c0 c1 c11 c12 c13 c14 c15 h3 h4 HC HS;go_wp2_with fail;refine(uz (n:Int) w1).mono ?_;rintro x w2 ⟨rfl,rfl⟩;go_wp2;go_ret;exact⟨n,hn1,rfl,by have hh:=mM.out;rw[AV.out];exact hh⟩
theorem MQ {W0:World}{E:Nat→Addr}{H:Nat→Nat}{C:fA}{w0:World}{G0:List Nat}{w:World}{F:List Nat}{st:mK}(h:aC W0 E H C w0 G0 w F st)(p pd id:Nat)(h1:pd≤st.a.d)(hp:p<2^pd)(c:Nat×List Nat)(hc:st.a.cop=some c):Calls Tryz.prog 171 #[bL C.mb,.int .i64 (p:Int),.int .i64 (pd:Int),.int .i64 (id:Int)] w fun e w'=>∃n,1≤n∧e= .returned (.int .i64 ((n:Nat):Int))∧aC W0 E H C w0 G0 w' F {st with a:={st.a with l:=jw st.a.l (bU p pd st.a.d) id (2^(st.a.d-pd)),cop:=st.a.cop.map fun c=>(c.1,oV c.2 (jw st.a.l (bU p pd st.a.d) id (2^(st.a.d-pd))) (bU p pd st.a.d) (min (bU p pd st.a.d+2^(st.a.d-pd)) c.1-bU p pd st.a.d))}}:=by
 obtain⟨Fs,hF,hpo⟩:=h.aB.pool;have HC:=qd h;obtain⟨c0,c1,c11,c12,c13,c14,c15⟩:=HC.out.cells;unfold lC at c13;rw[hc]at c13;simp only[Option.isSome_some,if_true]at c13;have HS:=qd (QZ C.A.cb C.A.db C.A.eb C.A.fb C.A.fe st.a.d c.1 st.a.l c.2 p pd id h1 hp w (hpo.cop c.1 c.2 hc));have hpos:=pos2 (st.a.d-pd);obtain⟨n,hn⟩:∃n,n=2^(st.a.d-pd)+2*(min (bU p pd st.a.d+2^(st.a.d-pd)) c.1-bU p pd st.a.d):=⟨_,rfl⟩
 have hn1:1≤n:=by omega
 have AV:=qd hc;rw[←hn]at HS;clear h hc hpo hF h1 hp hn hpos;unfold ql at HS;unfold bL;go_in;go_wp2_with fail;refine HS.out.mono ?_;rintro x w1 ⟨rfl,h3,h4⟩;have mM:=qd (HC.out.Uj (qO:=some (c.1,_)) h3.old (fun next lf he=>by cases he;exact h3) (by rw[AV.out];rfl) h4 (by intro q hq;unfold bY.dV;rw[AV.out];simp at hq⊢;omega));clear c0 c1 c11 c12 c13 c14 c15 h3 h4 HC HS;go_wp2_with fail;refine(uz (n:Int) w1).mono ?_;rintro x w2 ⟨rfl,rfl⟩;go_wp2;go_ret;exact⟨n,hn1,rfl,by have hh:=mM.out;rw[AV.out];exact hh⟩
end
section
variable {id qb : Nat} {val val' : Nat → Value} {ids : List Nat} {w4 : World} {v4 : Value}
section
variable {W0 : World} {E : Nat → Addr} {H : Nat → Nat} {C : fA} {w0 : World} {G0 : List Nat} {w w' : World} {F : List Nat} {st : mK}
theorem aC.two (h:aC W0 E H C w0 G0 w F st){N:Nd}(hN:st.a.Ns[id]?=some N):∃Fi,bK w (C.A.nb id) Fi N∧dY H N∧
  ∀(w':World) (F' F2 S:List Nat) (N0 N1:Nd) (qb:Nat),bK w' (C.A.nb id) F' N0→dY H N0→bK w' qb F2 N1→(∀q∈F',q∈Fi)→(∀q∈F2,q∈Fi∨w.heap.size≤q)→(∀q∈F',q∉F2)→Mod S w w'→(∀q∈S,q∈Fi)→
   ∃Fn,aC W0 E H C w0 G0 w' Fn {st with a:={st.a with Ns:=st.a.Ns.set id N0}}∧∀q∈F2,q∉C.foot Fn∧(q∈G0∨w0.heap.size≤q)∧W0.heap.size≤q:=by
 obtain⟨Fs,hF,hp⟩:=h.aB.pool;obtain⟨hA,hO⟩:=hp.lu id N hN;have hid:=bC hN;have hin:∀q∈Fs id,q∈F:=fun q hq=>hF▸aK.2 (.inl ⟨id,hid,hq⟩);refine⟨Fs id,hA,hO,fun w' F' F2 S N0 N1 qb hA0 hO0 hA1 hF' hF2 ael hm hS=> ?_⟩;have hP:=hp.node hN hA0 hO0 (fun q hq=> .inl (hF' q hq)) hm (fun q hq=> .inr (hS q hq)) h.aB.env.size h.aB.met.lt;have hS':∀q∈S,q∈F:=fun q hq=>hin q (hS q hq);have hlen:(st.a.Ns.set id N0).length=st.a.Ns.length:=List.length_set
 have aaF:∀q,q∈gN C.A (fun i=>if i=id then F' else Fs i) {st.a with Ns:=st.a.Ns.set id N0}→q∈F:=fun q hq=>by
  rcases aK.1 hq with⟨i,hi,hq2⟩|hq2
  ·have hi':i<st.a.Ns.length:=by simpa using hi
   by_cases e1:i=id
   ·simp only[if_pos e1]at hq2;exact hin q (hF' q hq2)
   ·simp only[if_neg e1]at hq2;exact hF▸aK.2 (.inl ⟨i,hi',hq2⟩)
  ·exact hF▸aK.2 (.inr hq2)
 refine⟨_,h.upd C.A C.v {st with a:={st.a with Ns:=st.a.Ns.set id N0}} hm (fun q hq=>aS.2 (.inr (.inr (.inl (hS' q hq))))) (h.aB.aB.mod hm (fun q hq dL=>(h.aB.apart q hq).1 (hS' q dL))) ⟨_,rfl,hP⟩ (h.aB.met.mod hm (fun hq=>h.hp.mb h.aB.pool (hS' _ hq))) ?_ ?_ (fun q hq=> .inl (aaF q hq)) (fun g hg=>⟨.inl hg,fun hh=>by have:=(h.row.lt g hg).2;omega⟩),fun q hq=>⟨fun hf=> ?_, ?_, ?_⟩⟩
 ·show w'.ownsRow W0.heap.size 116 1 C.v (st.a.Ns.set id N0).length (jF C.A (st.a.Ns.set id N0).length);rw[hlen];exact lK (st:=st) h hm (fun q hq=> .inr (.inr (hS' q hq)))
 ·show 1≤(st.a.Ns.set id N0).length;rw[hlen];exact h.pos
 ·have hl:=h.gJ;rcases hF2 q hq with h1|h1
  ·rcases aS.1 hf with h2|h2|h2|h2
   ·exact h.hp.mb h.aB.pool (show C.mb∈F from h2▸hin q h1)
   ·exact(h.aB.apart q h2).1 (hin q h1)
   ·rcases aK.1 h2 with⟨i,hi,hq2⟩|hq2
    ·have hi':i<st.a.Ns.length:=by simpa using hi
     by_cases e1:i=id
     ·simp only[if_pos e1]at hq2;exact ael q hq2 hq
     ·simp only[if_neg e1]at hq2;exact hp.sep i id hi' hid e1 q hq2 h1
    ·exact hp.wH id hid q h1 hq2
   ·exact h.AR q h2 (by show q∈C.mb::(C.s.blocks++F);simp[hin q h1])
  ·rcases aS.1 hf with h2|h2|h2|h2
   ·have:=hl q (aS.2 (.inl h2));omega
   ·have:=hl q (aS.2 (.inr (.inl h2)));omega
   ·have:=hl q (aS.2 (.inr (.inr (.inl (aaF q h2)))));omega
   ·have:=hl q (aS.2 (.inr (.inr (.inr h2))));omega
 ·rcases hF2 q hq with h1|h1
  ·exact h.sub q (aS.2 (.inr (.inr (.inl (hin q h1)))))
  ·exact .inr (Nat.le_trans h.mod.size h1)
 ·rcases hF2 q hq with h1|h1
  ·exact h.ZP q (aS.2 (.inr (.inr (.inl (hin q h1)))))
  ·have:=h.aB.env.size;omega
def bY.more (A:bY)(n qb:Nat):bY:={A with nb:=fun i=>if i=n then qb else A.nb i}
theorem ZT (A:bY)(n qb:Nat):jF (A.more n qb) (n+1)=jF A n++[.pointer (some ⟨qb,0,none⟩)]:=by
 unfold jF ptrs;rw[List.range_succ,List.map_append,List.map_append];congr 1
 ·congr 1;refine List.map_congr_left fun i hi=> ?_;rw[List.mem_range]at hi;show(if i=n then qb else A.nb i)=A.nb i;rw[if_neg (by omega)]
 ·simp[bY.more]
theorem ZU {A:bY}{n:Nat}(h:id≠n):(A.more n qb).val id=A.val id:=by
 unfold bY.val bY.ja bY.more;simp only;rw[if_neg h];rfl
theorem Q7 (h:∀id∈ids,val id=val' id):jl val ids=jl val' ids:=by
 funext y;unfold jl;by_cases hy:∃id∈ids,y=(id:Int)
 ·obtain⟨id,hid,rfl⟩:=hy;simp[hid,h id hid]
 ·split
  ·next hh=>first|rfl|(exfalso;simp at hh;exact hy ⟨_,hh.2,by omega⟩)|simp_all
  ·rfl
theorem dS.aaG {w:World}{sb rb jb:Nat}{k b:Int}(h:dS w sb qb rb jb k b val ids)(he:∀id∈ids,val id=val' id):dS w sb qb rb jb k b val' ids:=
 ⟨h.blk,h.DU,by rw[←Q7 he];exact h.map,h.nd,h.apart⟩
theorem PS {w:World}{base:Nat}{v:Value}(h:kr w base v w4 v4):Mod v.ownBlock.toList w w4:=
 ⟨h.kM.os,h.kM.tape,h.kM.output,h.kM.size,fun k hk hn=>h.kM.block k hk (fun e=>hn (by rw[←e];simp))⟩
theorem aC.grow (h:aC W0 E H C w0 G0 w F st){F2:List Nat}{N1:Nd}(hA:bK w qb F2 N1)(hO:dY H N1)(hF2:∀q∈F2,q∉C.foot F∧(q∈G0∨w0.heap.size≤q)∧W0.heap.size≤q)(zP:∀i∈st.ids,i≠st.a.Ns.length)(h32:st.a.Ns.length+1≤32)(hown:w4.ownsRow W0.heap.size 116 1 v4 (st.a.Ns.length+1) (jF C.A st.a.Ns.length++[.pointer (some ⟨qb,0,none⟩)]))(hgr:kr w W0.heap.size C.v w4 v4):
  ∃F',aC W0 E H {C with A:=C.A.more st.a.Ns.length qb,v:=v4} w0 G0 (w4.setCell ⟨C.mb,11,none⟩ v4) F' {st with a:={st.a with Ns:=st.a.Ns++[N1]}}∧bK (w4.setCell ⟨C.mb,11,none⟩ v4) qb F2 N1:=by
 obtain⟨Fs,hF,hp⟩:=h.aB.pool;have hml:C.mb<w.heap.size:=h.aB.met.lt;have ku:=PS hgr;have jq:Mod (C.mb::C.v.ownBlock.toList) w (w4.setCell ⟨C.mb,11,none⟩ v4):=(ku.more (fun k hk=>by simp at hk⊢;exact .inr hk)).ak (.inl (by simp)) 11 v4
 have hS:∀q∈C.mb::C.v.ownBlock.toList,q∈C.foot F:=fun q hq=>by
  rcases List.mem_cons.1 hq with e|e
  ·exact aS.2 (.inl e)
  ·exact aS.2 (.inr (.inr (.inr (by simpa using e))))
 have hlts:=h.gJ
 have hFn:∀q∈F,q∉C.mb::C.v.ownBlock.toList:=fun q hq dL=>by
  rcases List.mem_cons.1 dL with e|e
  ·exact h.hp.mb h.aB.pool (show C.mb∈F from e▸hq)
  ·exact h.AR q (by simpa using e) (by show q∈C.mb::(C.s.blocks++F);simp[hq])
 have hbn:∀q∈C.s.blocks,q∉C.mb::C.v.ownBlock.toList:=fun q hq dL=>by
  rcases List.mem_cons.1 dL with e|e
  ·exact(h.aB.apart q hq).2.1 e
  ·exact h.AR q (by simpa using e) (by show q∈C.mb::(C.s.blocks++F);simp[hq])
 have aem:∀q∈F2,q∉C.mb::C.v.ownBlock.toList:=fun q hq dL=>(hF2 q hq).1 (hS q dL);have Xb:=hA.mod jq aem;have agq:(C.A.more st.a.Ns.length qb).dV=C.A.dV:=rfl;have zx:∀i,i<st.a.Ns.length→∀q∈Fs i,q∈F:=fun i hi q hq=>hF▸aK.2 (.inl ⟨i,hi,hq⟩);have vX:∀q∈C.A.dV st.a.cop,q∈F:=fun q hq=>hF▸aK.2 (.inr hq);have hff:∀q∈F,q∈C.foot F:=fun q hq=>aS.2 (.inr (.inr (.inl hq)))
 have hl1:(st.a.Ns++[N1]).length=st.a.Ns.length+1:=by simp
 have hget:∀(i:Nat) (X:Nd),(st.a.Ns++[N1])[i]?=some X→(i=st.a.Ns.length∧X=N1)∨(i<st.a.Ns.length∧st.a.Ns[i]?=some X):=fun i X hX=>by
  by_cases hi:i<st.a.Ns.length
  ·rw[List.getElem?_append_left hi]at hX;exact .inr ⟨hi,hX⟩
  ·have:=bC hX;rw[List.getElem?_append_right (by omega)]at hX
   have h0:i-st.a.Ns.length=0:=by omega
   rw[h0]at hX;cases hX;exact .inl ⟨by omega,rfl⟩
 have hin:∀q,q∈gN (C.A.more st.a.Ns.length qb) (fun i=>if i=st.a.Ns.length then F2 else Fs i) {st.a with Ns:=st.a.Ns++[N1]}→q∈F∨q∈F2:=fun q hq=>by
  rcases aK.1 hq with⟨i,hi,hq2⟩|hq2
  ·have hi':i<st.a.Ns.length+1:=by simpa using hi
   by_cases e1:i=st.a.Ns.length
   ·simp only[if_pos e1]at hq2;exact .inr hq2
   ·simp only[if_neg e1]at hq2;exact .inl (zx i (by omega) q hq2)
  ·exact .inl (vX q hq2)
 have hP:iO W0 C.mb H (C.A.more st.a.Ns.length qb) (w4.setCell ⟨C.mb,11,none⟩ v4) (fun i=>if i=st.a.Ns.length then F2 else Fs i) {st.a with Ns:=st.a.Ns++[N1]}:=by
  refine⟨fun i X hX=> ?_,hp.dir.mod jq (hFn _ (vX _ (by simp[bY.dV]))) (hFn _ (vX _ (by simp[bY.dV]))),fun next lf hc=>(hp.cop next lf hc).mod jq (fun q hq=>hFn q (vX q (by have hc':st.a.cop=some (next,lf):=hc;unfold bY.dV;rw[hc'];simp at hq⊢;omega))),fun i j hi hj hij q hq hq2=> ?_,fun i hi q hq hq2=> ?_,fun q hq=> ?_,fun hq=> ?_,by show(st.a.Ns++[N1]).length≤32;omega⟩
  ·rcases hget i X hX with⟨rfl,rfl⟩|⟨h1,h2⟩
   ·simp only[if_pos];exact⟨by show bK _ (if _ then qb else _) _ _;rw[if_pos rfl];exact Xb,hO⟩
   ·simp only[if_neg (show i≠st.a.Ns.length by omega)];exact⟨by show bK _ (if _ then qb else _) _ _;rw[if_neg (by omega)];exact(hp.lu i X h2).1.mod jq (fun q hq=>hFn q (zx i h1 q hq)),(hp.lu i X h2).2⟩
  ·have hi':i<st.a.Ns.length+1:=by simpa using hi
   have hj':j<st.a.Ns.length+1:=by simpa using hj
   by_cases e1:i=st.a.Ns.length<;>by_cases e2:j=st.a.Ns.length
   ·exact hij (e1.trans e2.symm)
   ·simp only[if_pos e1]at hq;simp only[if_neg e2]at hq2;exact(hF2 q hq).1 (hff q (zx j (by omega) q hq2))
   ·simp only[if_neg e1]at hq;simp only[if_pos e2]at hq2;exact(hF2 q hq2).1 (hff q (zx i (by omega) q hq))
   ·simp only[if_neg e1]at hq;simp only[if_neg e2]at hq2;exact hp.sep i j (by omega) (by omega) hij q hq hq2
  ·have hi':i<st.a.Ns.length+1:=by simpa using hi
   by_cases e1:i=st.a.Ns.length
   ·simp only[if_pos e1]at hq;exact(hF2 q hq).1 (hff q (vX q hq2))
   ·simp only[if_neg e1]at hq;exact hp.wH i (by omega) q hq hq2
  ·rcases hin q hq with h1|h1
   ·exact hp.low q (hF▸h1)
   ·exact(hF2 q h1).2.2
  ·rcases hin _ hq with h1|h1
   ·exact hp.mb (hF▸h1)
   ·exact(hF2 _ h1).1 (aS.2 (.inl rfl))
 refine⟨_,h.acI (C.A.more st.a.Ns.length qb) v4 {st with a:={st.a with Ns:=st.a.Ns++[N1]}} jq hS ((h.aB.aB.mod jq hbn).aaG (fun id hid=>(ZU (zP id hid)).symm)) ⟨_,rfl,hP⟩ ⟨rfl, ?_⟩ ?_ ?_ (fun q hq=> ?_) (fun g hg=>⟨?_,fun hh hq=> ?_⟩),Xb⟩
 ·exact((Met.blk h.aB.met).mod ku (fun hq=>h.AR C.mb (Option.mem_toList.1 hq) (by show C.mb∈C.mb::_;simp))).ak 11 v4
 ·show(w4.setCell ⟨C.mb,11,none⟩ v4).ownsRow W0.heap.size 116 1 v4 (st.a.Ns++[N1]).length (jF (C.A.more st.a.Ns.length qb) (st.a.Ns++[N1]).length);rw[hl1,ZT];refine fV (S:=[C.mb]) hown ((Mod.refl _ w4).ak (.inl (by simp)) 11 v4) (fun k hk Ji=> ?_);have hk2:k=C.mb:=List.mem_singleton.1 Ji;rcases hgr.at_ with e|⟨g,e,hgl⟩
  ·exact h.AR k (e▸hk) (by show k∈C.mb::_;simp[hk2])
  ·rw[e]at hk;have:=Option.some.inj hk;omega
 ·show 1≤(st.a.Ns++[N1]).length;omega
 ·rcases hin q hq with h1|h1
  ·exact .inl h1
  ·exact .inr ⟨(hF2 q h1).2.1,(hF2 q h1).1⟩
 ·rcases hgr.at_ with e|⟨g',e,hgl⟩
  ·exact .inl (e▸hg)
  ·rw[e]at hg;have:=Option.some.inj hg;exact .inr (by omega)
 ·rcases hin g hq with h1|h1
  ·have:=hlts g (hff g h1);omega
  ·have:=hA.gJ g h1;omega
theorem aC.take (h:aC W0 E H C w0 G0 w F st){c:Nat×List Nat}(hc:st.a.cop=some c){w1:World}(hD:cu w1 C.A.fb C.A.fe (st.a.d+1) c.2)(hm:Mod [C.A.cb] w w1):
  ∃F',aC W0 E H {C with A:={C.A with db:=C.A.fb,eb:=C.A.fe},v:=C.v} w0 G0 ((w1.setCell ⟨C.mb,12,none⟩ (.pointer (some ⟨C.A.fb,0,none⟩))).setCell ⟨C.mb,13,none⟩ (.pointer none)) F' {st with a:={st.a with d:=st.a.d+1,l:=c.2,cop:=none}}:=by
 obtain⟨Fs,hF,hp⟩:=h.aB.pool;have hm2:Mod [C.A.cb,C.mb] w ((w1.setCell ⟨C.mb,12,none⟩ (.pointer (some ⟨C.A.fb,0,none⟩))).setCell ⟨C.mb,13,none⟩ (.pointer none)):=((hm.more (fun k hk=>by simp at hk⊢;exact .inl hk)).ak (.inl (by simp)) _ _).ak (.inl (by simp)) _ _
 have hmd:∀q∈[C.A.cb,C.A.fb,C.A.fe],q∈C.A.dV st.a.cop:=fun q hq=>by
  unfold bY.dV;rw[hc];simp at hq⊢;omega
 have vX:∀q∈C.A.dV st.a.cop,q∈F:=fun q hq=>hF▸aK.2 (.inr hq);have hmb:∀q∈F,q≠C.mb:=fun q hq e=>h.hp.mb h.aB.pool (show C.mb∈F from e▸hq);have ady:=(hp.cop c.1 c.2 hc).nd;simp at ady
 have hD2:cu ((w1.setCell ⟨C.mb,12,none⟩ (.pointer (some ⟨C.A.fb,0,none⟩))).setCell ⟨C.mb,13,none⟩ (.pointer none)) C.A.fb C.A.fe (st.a.d+1) c.2:=
  hD.mod (S:=[C.mb]) (((Mod.refl _ w1).ak (.inl (by simp)) _ _).ak (.inl (by simp)) _ _) (fun hq=>hmb _ (vX _ (hmd _ (by simp))) (List.mem_singleton.1 hq)) (fun hq=>hmb _ (vX _ (hmd _ (by simp))) (List.mem_singleton.1 hq))
 have hin:∀q,q∈gN ({C.A with db:=C.A.fb,eb:=C.A.fe}:bY) Fs {st.a with d:=st.a.d+1,l:=c.2,cop:=none}→q∈F:=fun q hq=>by
  rcases aK.1 hq with⟨i,hi,hq2⟩|hq2
  ·exact hF▸aK.2 (.inl ⟨i,hi,hq2⟩)
  ·refine vX q (hmd q ?_);unfold bY.dV at hq2;simp at hq2⊢;omega
 have aaH:∀i,i<st.a.Ns.length→∀q∈Fs i,q∉[C.A.cb,C.A.fb,C.A.fe]:=fun i hi q hq hq2=>hp.wH i hi q hq (hmd q hq2);have zx:∀i,i<st.a.Ns.length→∀q∈Fs i,q∈F:=fun i hi q hq=>hF▸aK.2 (.inl ⟨i,hi,hq⟩)
 have hS:∀q∈[C.A.cb,C.mb],q∈C.foot F:=fun q hq=>by
  simp at hq;rcases hq with rfl|rfl
  ·exact aS.2 (.inr (.inr (.inl (vX _ (hmd _ (by simp))))))
  ·exact aS.2 (.inl rfl)
 have hP:iO W0 C.mb H ({C.A with db:=C.A.fb,eb:=C.A.fe}:bY) ((w1.setCell ⟨C.mb,12,none⟩ (.pointer (some ⟨C.A.fb,0,none⟩))).setCell ⟨C.mb,13,none⟩ (.pointer none)) Fs {st.a with d:=st.a.d+1,l:=c.2,cop:=none}:=
  ⟨fun i N hN=>⟨(hp.lu i N hN).1.mod hm2 (fun q hq dL=>by
    simp at dL;rcases dL with h1|h1
    ·exact aaH i (bC hN) q hq (by simp[h1])
    ·exact hmb q (zx i (bC hN) q hq) h1),(hp.lu i N hN).2⟩,hD2,fun next lf he=>(by cases he),hp.sep,fun i hi q hq hq2=>aaH i hi q hq (by unfold bY.dV at hq2;simp at hq2⊢;omega),fun q hq=>hp.low q (hF▸hin q hq),fun hq=>hmb _ (hin _ hq) rfl,hp.yJ⟩
 refine⟨_,h.upd {C.A with db:=C.A.fb,eb:=C.A.fe} C.v {st with a:={st.a with d:=st.a.d+1,l:=c.2,cop:=none}} hm2 hS (h.aB.aB.mod hm2 (fun q hq dL=> ?_)) ⟨Fs,rfl,hP⟩ ⟨rfl, ?_⟩ (lK (st:=st) h hm2 (fun q hq=> ?_)) h.pos (fun q hq=> .inl (hin q hq)) (fun g hg=>⟨.inl hg,fun hh=>by have:=(h.row.lt g hg).2;omega⟩)⟩
 ·have ha:=h.aB.apart q hq;simp at dL;rcases dL with h1|h1
  ·exact ha.1 (vX q (hmd q (by simp[h1])))
  ·exact ha.2.1 h1
 ·exact(((Met.blk h.aB.met).mod hm (fun hq=>hmb _ (vX _ (hmd C.A.cb (by simp))) (List.mem_singleton.1 hq).symm)).ak 12 _).ak 13 _
 ·simp at hq;rcases hq with h1|h1
  ·exact .inr (.inr (vX q (hmd q (by simp[h1]))))
  ·exact .inl h1
end
end
section
variable {W0 w w0 : World} {E : Nat → Addr} {H : Nat → Nat} {C : fA} {F G0 : List Nat} {st : mK}
theorem Uk:(Tryz.prog.info? 116).map (fun i=>(i.zero,i.size,i.bytes))=some (some (.pointer none),1,8):=by kernel_rfl
theorem Ul:wm Tryz.prog 125 116 1 8:=FV Tryz.underlying125 Uk rfl (by decide) (by decide)
inductive wI (H:Nat→Nat):Pool→Nat→Pool→Prop
 |take {a:Pool} {c:Nat×List Nat} (hc:a.cop=some c) (hl:c.1=a.l.length):wI H a 32 {a with d:=a.d+1,l:=c.2,cop:=none}
 |one {a:Pool} {id:Nat} {N:Nd} {X:aD} (hN:a.Ns[id]?=some N) (hb:N.ph.busy=true) (hl:N.left=0) (ho:dY H N) (hm:N.many=1) (hk:dY H ⟨N.pfx,N.au,0,0,X,.idle⟩) (he:(Nd.mk N.pfx N.au 0 0 X .idle).ents=N.ents) (hx:X.gs.length=N.each):wI H a id {a with Ns:=a.Ns.set id ⟨N.pfx,N.au,0,0,X,.idle⟩}
 | two {a : Pool} {id : Nat} {N : Nd} {X Y : aD} (hN : a.Ns[id]? = some N) (hb : N.ph.busy = true) (hl : N.left = 0) (ho : dY H N) (hm : N.many = 2) (hd : N.au < a.d) (hk : dY H ⟨2 * N.pfx, N.au + 1, 0, 0, X, .idle⟩) (hk2 : dY H ⟨2 * N.pfx + 1, N.au + 1, 0, 0, Y, .idle⟩)
   (he:(Nd.mk (2*N.pfx) (N.au+1) 0 0 X .idle).ents++(Nd.mk (2*N.pfx+1) (N.au+1) 0 0 Y .idle).ents=N.ents) (hx:X.gs.length=N.each) (hy:Y.gs.length=N.each):wI H a id (a.split id ⟨2*N.pfx,N.au+1,0,0,X,.idle⟩ ⟨2*N.pfx+1,N.au+1,0,0,Y,.idle⟩)
def uJ (W0:World)(E:Nat→Addr)(H:Nat→Nat)(C:fA)(w0:World)(G0:List Nat)(st:mK)(id:Nat)(w':World):Prop:=∃(A':bY) (v':Value) (F':List Nat) (a':Pool) (x':bH) (u:Nat),wI H st.a id a'∧aC W0 E H {C with A:=A',v:=v'} w0 G0 w' F' {st with a:=a',x:=x'}∧dN st.x x' 0 u
theorem MR (h:aC W0 E H C w0 G0 w F st)(c:Nat×List Nat)(hc:st.a.cop=some c)(hl:c.1=st.a.l.length):Calls Tryz.prog 109 #[bL C.mb,.int .i64 ((32:Nat):Int)] w fun e w'=>e= .returned undef∧uJ W0 E H C w0 G0 st 32 w':=by
 have HC:=qd h;obtain⟨c0,c1,c11,c12,c13,c14,c15⟩:=HC.out.cells;obtain⟨Fs,hF,hp⟩:=h.aB.pool;unfold lC at c13;rw[hc]at c13;simp only[Option.isSome_some,if_true]at c13;have HT:=qd (Pb C.A.cb C.A.db C.A.eb C.A.fb C.A.fe st.a.d c.1 st.a.l c.2 hl w (hp.cop c.1 c.2 hc));have hcm:C.mb≠C.A.cb:=fun e=>hp.mb (aK.2 (.inr (by unfold bY.dV;rw[hc];simp[e])));have HcM:=qd hcm;have AV:=qd hc;have HHl:=qd hl;clear h hF hp hcm hc hl;unfold ql iC at HT;unfold bL;go_in;go_wp2_with fail;refine HT.out.mono ?_;rintro x w1 ⟨rfl,hD,hm⟩;have HD:=qd hD;have HM:=qd hm;have hB:=(Met.blk HC.out.aB.met).mod hm (fun hq=>HcM.out (List.mem_singleton.1 hq));have d12:w1.cell? ⟨C.mb,12,none⟩=some (.pointer (some ⟨C.A.db,0,none⟩)):=hB.cell 12;have d13:w1.cell? ⟨C.mb,13,none⟩=some (lC C.A st.a.cop):=hB.cell 13;unfold lC at d13;have g12:w1.frozen? ⟨C.mb,12,none⟩=false:=hB.frozen 12;have g13:w1.frozen? ⟨C.mb,13,none⟩=false:=hB.frozen 13;clear c0 c1 c11 c12 c13 c14 c15 hB hD hm HT;go_wp2_with fail;refine(Y6 (some ⟨C.A.fb,0,none⟩) w1).mono ?_;rintro x w2 ⟨rfl,rfl⟩;go_wp2;refine bodyPost_ret (results_none rfl _ _ _) rfl ?_;obtain⟨F',hC'⟩:=HC.out.take AV.out HD.out HM.out;have hfin:uJ W0 E H C w0 G0 st 32 _:=⟨_,_,F',_,st.x,0,.take AV.out HHl.out,hC',dN.refl _⟩
 first|exact⟨rfl,hfin⟩|exact hfin
theorem PU (h:aC W0 E H C w0 G0 w F st)(id:Nat)(N:Nd)(hN:st.a.Ns[id]?=some N)(hb:N.ph.busy=true)(hl:N.left=0)(hm1:N.many=1):Calls Tryz.prog 109 #[bL C.mb,.int .i64 ((id:Nat):Int)] w fun e w'=>e= .returned undef∧uJ W0 E H C w0 G0 st id w':=by
 have HC:=qd h;obtain⟨c0,c1,c11,c12,c13,c14,c15⟩:=HC.out.cells;obtain⟨Fs,hF,hp⟩:=h.aB.pool;have hid:=bC hN;have hle:=hp.yJ
 have h32:¬(id:Int)=32:=by omega
 obtain⟨vb,cap,hv,hr⟩:=h.rowAt;rw[hv]at c11;have cr:=hr id hid
 have hn':(id:Int)<(st.a.Ns.length:Int):=by omega
 have hi0:(0:Int)≤(id:Int):=by omega
 obtain⟨Fi,hA,hO,hmb,hlow,hFi,hnx⟩:=h.node hN;have HE:=qd (Uc hA hO hb hl hm1);have HX:=qd hnx;have HP:=qd (And.intro hN (And.intro hb (And.intro hl (And.intro hO hm1))));have HMb:=qd hmb;clear h hp hF hv hr hN hA hO hb hl hm1 hlow hFi hnx hmb hid hle;generalize st.a.Ns.length=n at*;unfold aQ at HE;unfold bL;go_in;go_wp2_with fail;refine HE.out.mono ?_;rintro x w1 ⟨rfl,X,F',h1,h2,h3,h4,h5,h6⟩;obtain⟨F2,hC'⟩:=HX.out w1 F' Fi _ st.x h1 h2 (fun q hq=> .inl (h5 q hq)) (HC.out.aB.met.mod h6 HMb.out) h6 (fun q hq=> .inr hq);have mM:=qd hC';have HE2:=qd (wI.one (X:=X) HP.out.1 HP.out.2.1 HP.out.2.2.1 HP.out.2.2.2.1 HP.out.2.2.2.2 h2 h3 h4);clear hC' h1 h2 h3 h4 h5 h6 HE HX HP c0 c1 c11 c12 c13 c14 c15 cr;go_wp2_with fail;refine(KR none w1).mono ?_;rintro x w2 ⟨rfl,rfl⟩;go_wp2;refine bodyPost_ret (results_none rfl _ _ _) rfl ?_;have hfin:uJ W0 E H C w0 G0 st id _:=⟨C.A,C.v,F2,_,st.x,0,HE2.out,mM.out,dN.refl _⟩
 first|exact⟨rfl,hfin⟩|exact hfin
theorem ZV (h:aC W0 E H C w0 G0 w F st)(p pd id:Nat)(h1:pd≤st.a.d)(hp:p<2^pd):Calls Tryz.prog 171 #[bL C.mb,.int .i64 (p:Int),.int .i64 (pd:Int),.int .i64 (id:Int)] w fun e w'=>∃n,1≤n∧e= .returned (.int .i64 ((n:Nat):Int))∧aC W0 E H C w0 G0 w' F {st with a:={st.a with l:=jw st.a.l (bU p pd st.a.d) id (2^(st.a.d-pd)),cop:=st.a.cop.map fun c=>(c.1,oV c.2 (jw st.a.l (bU p pd st.a.d) id (2^(st.a.d-pd))) (bU p pd st.a.d) (min (bU p pd st.a.d+2^(st.a.d-pd)) c.1-bU p pd st.a.d))}}:=by
 cases hc:st.a.cop with
 |none=>have:=MO h p pd id h1 hp hc;rw[hc]at this;exact this
 |some c=>have:=MQ h p pd id h1 hp c hc;rw[hc]at this;exact this
theorem PV (h:aC W0 E H C w0 G0 w F st)(hd:eT st.a)(zP:∀i∈st.ids,i≠st.a.Ns.length)(id:Nat)(N:Nd)(hN:st.a.Ns[id]?=some N)(hb:N.ph.busy=true)(hl:N.left=0)(hm2:N.many=2):Calls Tryz.prog 109 #[bL C.mb,.int .i64 ((id:Nat):Int)] w fun e w'=>e= .returned undef∧uJ W0 E H C w0 G0 st id w':=by
 have HC:=qd h;obtain⟨c0,c1,c11,c12,c13,c14,c15⟩:=HC.out.cells;obtain⟨Fs,hF,hp⟩:=h.aB.pool;have hid:=bC hN;have hle:=hp.yJ
 have h32:¬(id:Int)=32:=by omega
 obtain⟨vb,cap,hv,hr⟩:=h.rowAt;rw[hv]at c11;have cr:=hr id hid
 have hn':(id:Int)<(st.a.Ns.length:Int):=by omega
 have hi0:(0:Int)≤(id:Int):=by omega
 have hpos:=h.pos;have hfit:=hd.fit id N hN
 have hlt:N.au<st.a.d:=hd.split id N hN hb (by
  unfold Nd.many at hm2;by_cases hk:N.kind=3
  ·exact hk
  ·rw[if_neg hk]at hm2;omega)
 have Um:st.a.Ns.length+1≤32:=by
  have hs:=(hd.Xa (N0:=⟨2*N.pfx,N.au+1,0,0,N.T,.idle⟩) (N1:=⟨2*N.pfx+1,N.au+1,0,0,N.T,.idle⟩) hN hlt ⟨rfl,rfl,rfl⟩ ⟨rfl,rfl,rfl⟩).nodes;have h5:=hp.dir.le;have h6:2^st.a.d≤2^5:=Nat.pow_le_pow_right (by decide) h5
  have h7:(st.a.split id ⟨2*N.pfx,N.au+1,0,0,N.T,.idle⟩ ⟨2*N.pfx+1,N.au+1,0,0,N.T,.idle⟩).Ns.length=st.a.Ns.length+1:=by unfold Pool.split;simp
  have h8:(st.a.split id ⟨2*N.pfx,N.au+1,0,0,N.T,.idle⟩ ⟨2*N.pfx+1,N.au+1,0,0,N.T,.idle⟩).d=st.a.d:=rfl;rw[h7,h8]at hs;omega
 obtain⟨Fi,hA,hO,hnx⟩:=h.two hN;have HE:=qd (Ud hA hO hb hl hm2);have HX:=qd hnx;have HP:=qd (And.intro hN (And.intro hb (And.intro hl (And.intro hO (And.intro hm2 hlt)))));have aen:=qd zP;have HH:=qd Um;have HV:=qd hv;have HFt:=qd hfit;have hn32:st.a.Ns.length≤32:=hle;obtain⟨n,hn⟩:∃n,n=st.a.Ns.length:=⟨_,rfl⟩;rw[←hn]at c11 hn' hn32 hpos Um;have HN:=qd hn;clear h hp hF hv hr hN hA hO hb hl hm2 hnx hid hle hd zP hfit hlt hn;unfold aQ at HE;unfold bL;go_in;go_wp2_with fail;refine HE.out.mono ?_;rintro x w1 ⟨qb,rfl,Av,_,X,Y,F',F2,a1,a2,a3,a4,a5,a6,a7,a8,a9,zT,CG⟩;obtain⟨Fn,b1,b2⟩:=HX.out w1 F' F2 Fi _ _ qb a1 a3 a2 a8 a9 zT CG (fun q hq=>hq);have jy:=qd b1;have HA1:=qd a2;have IQ:=qd b2;have HE2:=qd (wI.two (X:=X) (Y:=Y) HP.out.1 HP.out.2.1 HP.out.2.2.1 HP.out.2.2.2.1 HP.out.2.2.2.2.1 HP.out.2.2.2.2.2 a3 a4 a5 a6 a7);have Cj:=qd a4
 have hln:(st.a.Ns.set id (Nd.mk (2*N.pfx) (N.au+1) 0 0 X .idle)).length=n:=by rw[List.length_set,HN.out]
 have oI:=qd hln;clear b1 b2 a1 a2 a3 a4 a5 a6 a7 a8 a9 zT CG HE HX HC hln c0 c1 c11 c12 c13 c14 c15 cr;go_wp2_with fail;refine(KR (some ⟨qb,0,none⟩) w1).mono ?_;rintro x w2 ⟨rfl,rfl⟩;obtain⟨c0,c1,c11,c12,c13,c14,c15⟩:=jy.out.cells;rw[HV.out]at c11;have y7:=jy.out.row
 have hO2:w1.ownsRow W0.heap.size 116 1 C.v n (jF C.A n):=by
  have:=y7;rw[show({st with a:={st.a with Ns:=st.a.Ns.set id (Nd.mk (2*N.pfx) (N.au+1) 0 0 X .idle)}}:mK).a.Ns.length=n from oI.out]at this;exact this
 rw[HV.out,←HN.out]at hO2;rw[←HN.out]at c11
 have hBm:∀(V:World) (v4:Value),kr w1 W0.heap.size C.v V v4→V.cell? ⟨C.mb,11,none⟩=some C.v∧V.frozen? ⟨C.mb,11,none⟩=false:=fun V v4 hg=>by
  have hb:=(Met.blk jy.out.aB.met).mod (PS hg) (fun hq=>jy.out.AR C.mb (Option.mem_toList.1 hq) (by show C.mb∈C.mb::_;simp));exact⟨hb.cell 11,hb.frozen 11⟩
 rw[HV.out,←HN.out]at hBm;have R7:=qd hBm;have HV2:=qd (show C.v= .slice (some ⟨vb,0,none⟩) n cap from by rw[HV.out,HN.out]);clear y7 hBm;have hlw:W0.heap.size≤w1.heap.size:=jy.out.aB.env.size;go_upto_region 5 with fail
 go_upto_region 6 with(at_builtin;refine iD rfl rfl Ul hO2 rfl rfl rfl rfl rfl (by omega) (by omega) ?_;intro v4 w4 dh gV;obtain⟨A4,c4,rfl⟩:=bA dh;obtain⟨d11,g11⟩:=R7.out _ _ gV)
 obtain⟨F3,Cw,hA3⟩:=jy.out.grow HA1.out Cj.out IQ.out (show∀i∈st.ids,i≠(st.a.Ns.set id (Nd.mk (2*N.pfx) (N.au+1) 0 0 X .idle)).length from by rw[List.length_set];exact aen.out) (show(st.a.Ns.set id (Nd.mk (2*N.pfx) (N.au+1) 0 0 X .idle)).length+1≤32 from by rw[List.length_set];exact HH.out) (v4:= .slice A4 (n+1) c4) (w4:=w4) (show w4.ownsRow W0.heap.size 116 1 (.slice A4 (n+1) c4) ((st.a.Ns.set id (Nd.mk (2*N.pfx) (N.au+1) 0 0 X .idle)).length+1) (jF C.A (st.a.Ns.set id (Nd.mk (2*N.pfx) (N.au+1) 0 0 X .idle)).length++[.pointer (some ⟨qb,0,none⟩)])from by rw[oI.out];exact dh) (by rw[HV2.out];exact gV);refine dI (F:=fun v=>aC W0 E H {C with A:=C.A.more (st.a.Ns.set id (Nd.mk (2*N.pfx) (N.au+1) 0 0 X .idle)).length qb,v:= .slice A4 (n+1) c4} w0 G0 v F3 {st with a:={st.a with Ns:=st.a.Ns.set id (Nd.mk (2*N.pfx) (N.au+1) 0 0 X .idle)++[Nd.mk (2*N.pfx+1) (N.au+1) 0 0 Y .idle]}}∧bK v qb F2 (Nd.mk (2*N.pfx+1) (N.au+1) 0 0 Y .idle)) ⟨Cw,hA3⟩ ?_;rintro w5 ⟨Xc,Xb⟩;obtain⟨pp,hpp⟩:∃pp,pp=2*N.pfx+1:=⟨_,rfl⟩;obtain⟨dd,hdd⟩:∃dd,dd=N.au+1:=⟨_,rfl⟩;have LJ:=qd (show Calls Tryz.prog 135 #[aQ qb] w5 fun e w'=>e= .returned (.tuple #[.int .i64 (pp:Int),.int .i64 (dd:Int)])∧w5.drew=w' from by rw[hpp,hdd];exact LA Xb);have HPp:=qd hpp;have Xd:=qd hdd;have Xe:=qd Xc;unfold aQ at LJ;clear c0 c1 c11 c12 c13 c14 c15 Cw hA3 dh gV d11 g11 hO2 R7 hpp hdd Xc Xb;go_wp2_with fail;refine LJ.out.mono ?_;rintro x w6 ⟨rfl,hd6⟩
 have hb6:Below w5.heap.size w5 w6:=hd6▸(Below.refl _ _).drew;have p9:=qd (Xe.out.below hb6);have e11:w6.cell? ⟨C.mb,11,none⟩=some (.slice A4 (n+1) c4):=p9.out.cells.2.2.1;have Jj:=qd (p9.out.below (Below.refl w6.heap.size w6).drew);have hfit:=HFt.out;have aeo:=HP.out.2.2.2.2.2;have kC:=qd (ZV Jj.out pp dd n (show dd≤st.a.d from by rw[Xd.out];omega) (by rw[HPp.out,Xd.out,Nat.pow_succ];omega))
 have hw1:IntKind.i64.wrap (n:Int)=(n:Int):=by rw[IntKind.wrap_i64];omega
 have hw2:IntKind.i64.wrap ((n:Int)+1-1)=(n:Int):=by rw[show(n:Int)+1-1=(n:Int) by omega];exact hw1
 clear hd6 hb6 LJ Xe p9 hfit aeo;unfold bL at kC;go_wp2_with fail;refine rT (fun(w':World)=>w'.cell? ⟨C.mb,11,none⟩=some (.slice A4 (n+1) c4)) [12,13] ?_;have hHeld:=e11;refine vW 0 rfl ?_;refine vW 1 rfl ?_;refine vW 2 rfl ?_;refine vW 3 rfl ?_;refine vW 4 rfl ?_;refine vW 5 rfl ?_;refine vW 6 rfl ?_;refine vW 7 rfl ?_;refine vW 8 rfl ?_;refine nT 9 rfl fun K hK=> ?_;go_simp;refine kO hK ?_;clear hK K;refine vW 10 rfl ?_;refine vW 11 rfl ?_;refine nT 12 rfl fun K hK=> ?_;go_simp;refine(kC.out).mono ?_;rintro y w8 ⟨k,hk1,rfl,hC8⟩;have Cx:=qd hC8;clear hC8;have HUn:=qd (rU Cx.out k hk1);go_wp2_with fail;refine kO hK ?_;clear hK K;refine nT 13 rfl fun K hK=> ?_;go_simp;refine(HUn.out).mono ?_;rintro y w9 ⟨rfl,hC9⟩;have iI:=qd hC9;clear hC9 HUn;go_wp2_with fail;refine kO hK ?_;clear hK K;refine aT (by kernel_rfl) ?_ _;go_wp2;go_end0;have hC9:=iI.out;have hpp:=HPp.out;have hdd:=Xd.out;have hn9:=HN.out;subst hpp hdd hn9;have hfin:uJ W0 E H C w0 G0 st id _:=⟨_,_,_,_,_,k,HE2.out,hC9,nO st.x k⟩
 first|exact⟨rfl,hfin⟩|exact hfin
end
end Go.Proofs.YtgiaobmcbbfmnaaGreatDoor
