/- A core's Len, Nodes, Depth, of, Get by their contracts. -/
import Derived.Test.YtjfgpnapccdnlaaGreatDoorCoCG
import Derived.Test.YtjfgpnapccdnlaaGreatDoorBuilder
import Derived.Test.YtjfgpnapccdnlaaGreatDoorSqT
namespace Go.Proofs.YtjfgpnapccdnlaaGreatDoor
set_option maxRecDepth 100000
set_option maxHeartbeats 4000000
open Go.RowKit dF
section
variable {W0 w w0 : World} {E : Nat → Addr} {H : Nat → Nat} {C : iO} {F G0 : List Nat} {st : mW}
def bU (b:Nat):Value:= .pointer (some ⟨b,0,none⟩)
theorem aaE (h:aF W0 E H C w0 G0 w F st):Calls Tryz.prog 67 #[bU C.mb] w fun e w'=>e= .returned (.int .i64 (st.len:Int))∧w=w':=by
 have HC:=qd h;obtain⟨c0,c1,c11,c12,c13,c14,c15⟩:=HC.out.cells;clear h;unfold bU;go_in;go_wp2;go_ret;exact⟨rfl,rfl⟩
theorem AR (h:aF W0 E H C w0 G0 w F st)(hash id:Nat)(h64:hash<18446744073709551616)(hid:st.a.l.getD (dZ hash st.a.d) 0=id)(hn:id<st.a.Ns.length):Calls Tryz.prog 58 #[bU C.mb,.int .u64 (hash:Int)] w fun e w'=>e= .returned (.tuple #[.int .i64 (id:Int),aR (C.A.nb id)])∧Below w.heap.size w w':=by
 have HC:=qd h;obtain⟨c0,c1,c11,c12,c13,c14,c15⟩:=HC.out.cells;obtain⟨Fs,hF,hp⟩:=h.aC.pool;have HD:=qd (adt C.A.db C.A.eb st.a.d st.a.l hash h64 w hp.dir);rw[hid]at HD;clear h hp hF;unfold iB at HD;unfold bU aR;go_in;go_wp2_with fail;refine HD.out.mono ?_;rintro x w1 ⟨rfl,hd⟩;have hb:Below w.heap.size w w1:=hd▸(Below.refl _ _).drew;have HB:=qd hb;replace HC:=qd (HC.out.below hb);clear c0 c1 c11 c12 c13 c14 c15 hd hb HD;obtain⟨c0,c1,c11,c12,c13,c14,c15⟩:=HC.out.cells;obtain⟨vb,cap,hv,hr⟩:=HC.out.rowAt;rw[hv]at c11;have cr:=hr id hn
 have hn':(id:Int)<(st.a.Ns.length:Int):=by omega
 have hi0:(0:Int)≤(id:Int):=by omega
 generalize st.a.Ns.length=n at*;clear hv hr hid;go_wp2;go_region;go_wp2;refine bodyPost_ret (v:= .tuple #[.int .i64 (id:Int),.pointer (some ⟨C.A.nb id,0,none⟩)]) (by simp[results,Tryz.results58,go_sem]) rfl ⟨rfl,yE HB.out (Below.refl _ _).drew⟩
end
section
variable {S l' : List Nat} {qN : Option (Nat × List Nat)}
section
variable {W0 : World} {E : Nat → Addr} {H : Nat → Nat} {C : iO} {w0 : World} {G0 : List Nat} {w w' : World} {F : List Nat} {st : mW}
theorem Ec (h:aF W0 E H C w0 G0 w F st)(n:Nat)(hn:1≤n):Calls Tryz.prog 102 #[.pointer (some ⟨C.mb,3,none⟩),.int .i64 (n:Int)] w fun e w'=>e= .returned undef∧aF W0 E H C w0 G0 w' F {st with x:=st.x.add (cU (n:Int)) 1}:=
 (sw C.mb _ _ _ 3 st.x.all st.x.last C.m (n:Int) (by omega) w h.aC.met).mono fun e w' ⟨h1,h2,h3⟩=>⟨h1,h.met h2 h3⟩
theorem aF.sched (h:aF W0 E H C w0 G0 w F st){aP:List Nat}(hs:dS w' C.sb C.qb C.rb C.jb (C.K:Int) st.b C.A.val aP)(hm:Mod S w w')(hS:∀q∈S,q∈C.s.blocks):aF W0 E H C w0 G0 w' F {st with ids:=aP}:=by
 have hb:∀q∈S,q∉F∧q≠C.mb∧W0.heap.size≤q:=fun q hq=>h.aC.apart q (hS q hq);exact h.upd C.A C.v {st with ids:=aP} hm (fun q hq=>aY.2 (.inr (.inl (hS q hq)))) hs (h.hp.zR h.aC.pool hm (fun q hq dK=>(hb q dK).1 hq)) (h.aC.met.mod hm (fun hq=>(hb _ hq).2.1 rfl)) (lV (st:=st) h hm (fun q hq=> .inr (.inl (hS q hq)))) h.pos (fun _ hq=> .inl hq) (yH (st:=st) h)
theorem iN.UR {mb:Nat}{A:cB}{Fs:Nat→List Nat}{a:Pool}(h:iN W0 mb H A w Fs a)(hD:cu w' A.db A.eb a.d l')(hC:∀(next:Nat) (lf:List Nat),qN=some (next,lf)→jf w' A.cb A.db A.eb A.fb A.fe a.d next l' lf)(hi:qN.isSome=a.cop.isSome)(hm:Mod S w w')(hS:∀q∈S,q∈A.dW a.cop):
  iN W0 mb H A w' Fs {a with l:=l',cop:=qN}∧gK A Fs {a with l:=l',cop:=qN}=gK A Fs a:=by
 have hd:A.dW qN=A.dW a.cop:=by unfold cB.dW;rw[hi]
 have hf:gK A Fs {a with l:=l',cop:=qN}=gK A Fs a:=by unfold gK;rw[←hd]
 refine⟨⟨fun i N hN=>⟨(h.lK i N hN).1.mod hm (fun q hq dK=>h.wu i (bG hN) q hq (hS q dK)),(h.lK i N hN).2⟩,hD,hC,h.sep,fun i hi q hq=>by show q∉A.dW qN;rw[hd];exact h.wu i hi q hq,fun q hq=>h.low q (hf▸hq),fun hq=>h.mb (hf▸hq),h.yG⟩,hf⟩
theorem aF.UR (h:aF W0 E H C w0 G0 w F st)(hD:cu w' C.A.db C.A.eb st.a.d l')(hC:∀(next:Nat) (lf:List Nat),qN=some (next,lf)→jf w' C.A.cb C.A.db C.A.eb C.A.fb C.A.fe st.a.d next l' lf)(hi:qN.isSome=st.a.cop.isSome)(hm:Mod S w w')(hS:∀q∈S,q∈C.A.dW st.a.cop):
  aF W0 E H C w0 G0 w' F {st with a:={st.a with l:=l',cop:=qN}}:=by
 obtain⟨Fs,hF,hp⟩:=h.aC.pool;obtain⟨hp',hf⟩:=hp.UR hD hC hi hm hS;have hSF:∀q∈S,q∈F:=fun q hq=>hF▸aM.2 (.inr (hS q hq))
 have hcm:cmp C {st with a:={st.a with l:=l',cop:=qN}}=cmp C st:=by unfold cmp lM;simp only;rw[hi]
 refine h.upd C.A C.v {st with a:={st.a with l:=l',cop:=qN}} hm (fun q hq=>aY.2 (.inr (.inr (.inl (hSF q hq))))) (h.aC.aC.mod hm (fun q hq dK=>(h.aC.apart q hq).1 (hSF q dK))) ⟨Fs,hF.trans hf.symm,hp'⟩ ?_ (lV (st:=st) h hm (fun q hq=> .inr (.inr (hSF q hq)))) h.pos (fun _ hq=> .inl hq) (yH (st:=st) h);show aQ w' (cmp C {st with a:={st.a with l:=l',cop:=qN}}) st.x;rw[hcm];exact h.aC.met.mod hm (fun hq=>h.hp.mb h.aC.pool (hSF _ hq))
end
theorem Qb {W0:World}{E:Nat→Addr}{H:Nat→Nat}{C:iO}{w0:World}{G0:List Nat}{w:World}{F:List Nat}{st:mW}(h:aF W0 E H C w0 G0 w F st)(id:Nat)(t:TypeId)(p:Addr)(hv:C.A.val id= .iface t (.pointer (some p)))(hid:id∉st.ids)(lJ:id≤1000)(hroom:st.ids.length<40):Calls Tryz.prog 98 #[bU C.mb,.int .i64 (id:Int),.iface t (.pointer (some p))] w fun e w'=>e= .returned undef∧aF W0 E H C w0 G0 w' F {st with ids:=st.ids++[id],x:=st.x.add (cU 1) 1}:=by
 have HC:=qd h;obtain⟨c0,c1,c11,c12,c13,c14,c15⟩:=HC.out.cells;have HU:=qd (Ec h 1 (Nat.le_refl _));have HV:=qd hv;have p8:=qd hid;have Ed:=qd hroom;clear h hv hid hroom;unfold bU;go_in;go_wp2_with fail;refine HU.out.mono ?_;rintro x w1 ⟨rfl,h1⟩;clear HC HU c0 c1 c11 c12 c13 c14 c15;have HC:=qd h1;clear h1;obtain⟨c0,c1,c11,c12,c13,c14,c15⟩:=HC.out.cells;have HA:=qd (Xq C.sb C.qb C.rb C.jb C.K st.b C.A.val st.ids id p8.out lJ Ed.out t p HV.out w1 HC.out.aC.aC);unfold eG at HA;go_wp2_with fail;refine HA.out.mono ?_;rintro x w2 ⟨rfl,h2,h3⟩;have yI:=qd (HC.out.sched h2 h3 (by intro q hq;simp[iO.s,SP.blocks]at hq⊢;omega));clear c0 c1 c11 c12 c13 c14 c15 HC HA h2 h3;go_wp2_with fail;refine(jr w2).mono ?_;rintro x w3 ⟨rfl,rfl⟩;go_wp2;go_end0;exact⟨rfl,yI.out⟩
theorem Nk {W0:World}{E:Nat→Addr}{H:Nat→Nat}{C:iO}{w0:World}{G0:List Nat}{w:World}{F:List Nat}{st:mW}(h:aF W0 E H C w0 G0 w F st)(p pd id:Nat)(h1:pd≤st.a.d)(hp:p<2^pd)(hc:st.a.cop=none):Calls Tryz.prog 167 #[bU C.mb,.int .i64 (p:Int),.int .i64 (pd:Int),.int .i64 (id:Int)] w fun e w'=>∃n,1≤n∧e= .returned (.int .i64 ((n:Nat):Int))∧aF W0 E H C w0 G0 w' F {st with a:={st.a with l:=jE st.a.l (bS p pd st.a.d) id (2^(st.a.d-pd)),cop:=st.a.cop.map fun c=>(c.1,qp c.2 (jE st.a.l (bS p pd st.a.d) id (2^(st.a.d-pd))) (bS p pd st.a.d) (min (bS p pd st.a.d+2^(st.a.d-pd)) c.1-bS p pd st.a.d))}}:=by
 obtain⟨Fs,hF,hpo⟩:=h.aC.pool;have HC:=qd h;obtain⟨c0,c1,c11,c12,c13,c14,c15⟩:=HC.out.cells;unfold lM at c13;rw[hc]at c13;simp only[Option.isSome_none,Bool.false_eq_true,if_false]at c13;have HS:=qd (Sv C.A.db C.A.eb st.a.d st.a.l p pd h1 hp id w hpo.dir);have hpos:=pos2 (st.a.d-pd);obtain⟨n,hn⟩:∃n,n=2^(st.a.d-pd):=⟨_,rfl⟩
 have hn1:1≤n:=by omega
 have AU:=qd hc;have HN:=qd hn;have HS2:=qd (show Calls Tryz.prog 226 #[iB C.A.db,.int .i64 (p:Int),.int .i64 (pd:Int),.int .i64 (id:Int)] w fun e w'=>e= .returned (.tuple #[.int .i64 (n:Int),.nilIface])∧cu w' C.A.db C.A.eb st.a.d (jE st.a.l (bS p pd st.a.d) id (2^(st.a.d-pd)))∧Mod [C.A.eb] w w' from by rw[hn];exact HS.out);clear HS;have HS:=HS2;clear HS2 h hc hpo hF h1 hp hn hpos;unfold iB at HS;unfold bU;go_in;go_wp2_with fail;refine HS.out.mono ?_;rintro x w1 ⟨rfl,h3,h4⟩;have yI:=qd (HC.out.UR (qN:=none) h3 (fun next lf he=>by cases he) (by rw[AU.out]) h4 (by intro q hq;unfold cB.dW;simp at hq⊢;omega));clear c0 c1 c11 c12 c13 c14 c15 h3 h4 HC HS;go_wp2_with fail;refine(uw (n:Int) w1).mono ?_;rintro x w2 ⟨rfl,rfl⟩;go_wp2;go_ret;exact⟨n,hn1,rfl,by have hh:=yI.out;rw[AU.out];exact hh⟩
theorem Nl {W0:World}{E:Nat→Addr}{H:Nat→Nat}{C:iO}{w0:World}{G0:List Nat}{w:World}{F:List Nat}{st:mW}(h:aF W0 E H C w0 G0 w F st)(p pd id:Nat)(h1:pd≤st.a.d)(hp:p<2^pd)(c:Nat×List Nat)(hc:st.a.cop=some c):Calls Tryz.prog 167 #[bU C.mb,.int .i64 (p:Int),.int .i64 (pd:Int),.int .i64 (id:Int)] w fun e w'=>∃n,1≤n∧e= .returned (.int .i64 ((n:Nat):Int))∧aF W0 E H C w0 G0 w' F {st with a:={st.a with l:=jE st.a.l (bS p pd st.a.d) id (2^(st.a.d-pd)),cop:=st.a.cop.map fun c=>(c.1,qp c.2 (jE st.a.l (bS p pd st.a.d) id (2^(st.a.d-pd))) (bS p pd st.a.d) (min (bS p pd st.a.d+2^(st.a.d-pd)) c.1-bS p pd st.a.d))}}:=by
 obtain⟨Fs,hF,hpo⟩:=h.aC.pool;have HC:=qd h;obtain⟨c0,c1,c11,c12,c13,c14,c15⟩:=HC.out.cells;unfold lM at c13;rw[hc]at c13;simp only[Option.isSome_some,if_true]at c13;have HS:=qd (Rk C.A.cb C.A.db C.A.eb C.A.fb C.A.fe st.a.d c.1 st.a.l c.2 p pd id h1 hp w (hpo.cop c.1 c.2 hc));have hpos:=pos2 (st.a.d-pd);obtain⟨n,hn⟩:∃n,n=2^(st.a.d-pd)+2*(min (bS p pd st.a.d+2^(st.a.d-pd)) c.1-bS p pd st.a.d):=⟨_,rfl⟩
 have hn1:1≤n:=by omega
 have AU:=qd hc;rw[←hn]at HS;clear h hc hpo hF h1 hp hn hpos;unfold qm at HS;unfold bU;go_in;go_wp2_with fail;refine HS.out.mono ?_;rintro x w1 ⟨rfl,h3,h4⟩;have yI:=qd (HC.out.UR (qN:=some (c.1,_)) h3.old (fun next lf he=>by cases he;exact h3) (by rw[AU.out];rfl) h4 (by intro q hq;unfold cB.dW;rw[AU.out];simp at hq⊢;omega));clear c0 c1 c11 c12 c13 c14 c15 h3 h4 HC HS;go_wp2_with fail;refine(uw (n:Int) w1).mono ?_;rintro x w2 ⟨rfl,rfl⟩;go_wp2;go_ret;exact⟨n,hn1,rfl,by have hh:=yI.out;rw[AU.out];exact hh⟩
end
section
variable {id qb : Nat} {val val' : Nat → Value} {ids : List Nat} {w4 : World} {v4 : Value}
section
variable {W0 : World} {E : Nat → Addr} {H : Nat → Nat} {C : iO} {w0 : World} {G0 : List Nat} {w w' : World} {F : List Nat} {st : mW}
theorem aF.two (h:aF W0 E H C w0 G0 w F st){N:Nd}(hN:st.a.Ns[id]?=some N):∃Fi,bL w (C.A.nb id) Fi N∧eu H N∧
  ∀(w':World) (F' F2 S:List Nat) (N0 N1:Nd) (qb:Nat),bL w' (C.A.nb id) F' N0→eu H N0→bL w' qb F2 N1→(∀q∈F',q∈Fi)→(∀q∈F2,q∈Fi∨w.heap.size≤q)→(∀q∈F',q∉F2)→Mod S w w'→(∀q∈S,q∈Fi)→
   ∃Fn,aF W0 E H C w0 G0 w' Fn {st with a:={st.a with Ns:=st.a.Ns.set id N0}}∧∀q∈F2,q∉C.foot Fn∧(q∈G0∨w0.heap.size≤q)∧W0.heap.size≤q:=by
 obtain⟨Fs,hF,hp⟩:=h.aC.pool;obtain⟨hA,hO⟩:=hp.lK id N hN;have hid:=bG hN;have hin:∀q∈Fs id,q∈F:=fun q hq=>hF▸aM.2 (.inl ⟨id,hid,hq⟩);refine⟨Fs id,hA,hO,fun w' F' F2 S N0 N1 qb hA0 hO0 hA1 hF' hF2 afj hm hS=> ?_⟩;have hP:=hp.node hN hA0 hO0 (fun q hq=> .inl (hF' q hq)) hm (fun q hq=> .inr (hS q hq)) h.aC.env.size h.aC.met.lt;have hS':∀q∈S,q∈F:=fun q hq=>hin q (hS q hq);have hlen:(st.a.Ns.set id N0).length=st.a.Ns.length:=List.length_set
 have abr:∀q,q∈gK C.A (fun i=>if i=id then F' else Fs i) {st.a with Ns:=st.a.Ns.set id N0}→q∈F:=fun q hq=>by
  rcases aM.1 hq with⟨i,hi,hq2⟩|hq2
  ·have hi':i<st.a.Ns.length:=by simpa using hi
   by_cases e1:i=id
   ·simp only[if_pos e1]at hq2;exact hin q (hF' q hq2)
   ·simp only[if_neg e1]at hq2;exact hF▸aM.2 (.inl ⟨i,hi',hq2⟩)
  ·exact hF▸aM.2 (.inr hq2)
 refine⟨_,h.upd C.A C.v {st with a:={st.a with Ns:=st.a.Ns.set id N0}} hm (fun q hq=>aY.2 (.inr (.inr (.inl (hS' q hq))))) (h.aC.aC.mod hm (fun q hq dK=>(h.aC.apart q hq).1 (hS' q dK))) ⟨_,rfl,hP⟩ (h.aC.met.mod hm (fun hq=>h.hp.mb h.aC.pool (hS' _ hq))) ?_ ?_ (fun q hq=> .inl (abr q hq)) (fun g hg=>⟨.inl hg,fun hh=>by have:=(h.row.lt g hg).2;omega⟩),fun q hq=>⟨fun hf=> ?_, ?_, ?_⟩⟩
 ·show w'.ownsRow W0.heap.size 122 1 C.v (st.a.Ns.set id N0).length (jJ C.A (st.a.Ns.set id N0).length);rw[hlen];exact lV (st:=st) h hm (fun q hq=> .inr (.inr (hS' q hq)))
 ·show 1≤(st.a.Ns.set id N0).length;rw[hlen];exact h.pos
 ·have hl:=h.iE;rcases hF2 q hq with h1|h1
  ·rcases aY.1 hf with h2|h2|h2|h2
   ·exact h.hp.mb h.aC.pool (show C.mb∈F from h2▸hin q h1)
   ·exact(h.aC.apart q h2).1 (hin q h1)
   ·rcases aM.1 h2 with⟨i,hi,hq2⟩|hq2
    ·have hi':i<st.a.Ns.length:=by simpa using hi
     by_cases e1:i=id
     ·simp only[if_pos e1]at hq2;exact afj q hq2 hq
     ·simp only[if_neg e1]at hq2;exact hp.sep i id hi' hid e1 q hq2 h1
    ·exact hp.wu id hid q h1 hq2
   ·exact h.AQ q h2 (by show q∈C.mb::(C.s.blocks++F);simp[hin q h1])
  ·rcases aY.1 hf with h2|h2|h2|h2
   ·have:=hl q (aY.2 (.inl h2));omega
   ·have:=hl q (aY.2 (.inr (.inl h2)));omega
   ·have:=hl q (aY.2 (.inr (.inr (.inl (abr q h2)))));omega
   ·have:=hl q (aY.2 (.inr (.inr (.inr h2))));omega
 ·rcases hF2 q hq with h1|h1
  ·exact h.sub q (aY.2 (.inr (.inr (.inl (hin q h1)))))
  ·exact .inr (Nat.le_trans h.mod.size h1)
 ·rcases hF2 q hq with h1|h1
  ·exact h.aaC q (aY.2 (.inr (.inr (.inl (hin q h1)))))
  ·have:=h.aC.env.size;omega
def cB.more (A:cB)(n qb:Nat):cB:={A with nb:=fun i=>if i=n then qb else A.nb i}
theorem aaF (A:cB)(n qb:Nat):jJ (A.more n qb) (n+1)=jJ A n++[.pointer (some ⟨qb,0,none⟩)]:=by
 unfold jJ ptrs;rw[List.range_succ,List.map_append,List.map_append];congr 1
 ·congr 1;refine List.map_congr_left fun i hi=> ?_;rw[List.mem_range]at hi;show(if i=n then qb else A.nb i)=A.nb i;rw[if_neg (by omega)]
 ·simp[cB.more]
theorem aaG {A:cB}{n:Nat}(h:id≠n):(A.more n qb).val id=A.val id:=by
 unfold cB.val cB.ja cB.more;simp only;rw[if_neg h];rfl
theorem Ro (h:∀id∈ids,val id=val' id):jy val ids=jy val' ids:=by
 funext y;unfold jy;by_cases hy:∃id∈ids,y=(id:Int)
 ·obtain⟨id,hid,rfl⟩:=hy;simp[hid,h id hid]
 ·split
  ·next hh=>first|rfl|(exfalso;simp at hh;exact hy ⟨_,hh.2,by omega⟩)|simp_all
  ·rfl
theorem dS.abt {w:World}{sb rb jb:Nat}{k b:Int}(h:dS w sb qb rb jb k b val ids)(he:∀id∈ids,val id=val' id):dS w sb qb rb jb k b val' ids:=
 ⟨h.blk,h.DX,by rw[←Ro he];exact h.map,h.nd,h.apart⟩
theorem Qc {w:World}{base:Nat}{v:Value}(h:jL w base v w4 v4):Mod v.ownBlock.toList w w4:=
 ⟨h.kV.os,h.kV.tape,h.kV.output,h.kV.size,fun k hk hn=>h.kV.block k hk (fun e=>hn (by rw[←e];simp))⟩
theorem aF.grow (h:aF W0 E H C w0 G0 w F st){F2:List Nat}{N1:Nd}(hA:bL w qb F2 N1)(hO:eu H N1)(hF2:∀q∈F2,q∉C.foot F∧(q∈G0∨w0.heap.size≤q)∧W0.heap.size≤q)(zT:∀i∈st.ids,i≠st.a.Ns.length)(h32:st.a.Ns.length+1≤32)(hown:w4.ownsRow W0.heap.size 122 1 v4 (st.a.Ns.length+1) (jJ C.A st.a.Ns.length++[.pointer (some ⟨qb,0,none⟩)]))(hgr:jL w W0.heap.size C.v w4 v4):
  ∃F',aF W0 E H {C with A:=C.A.more st.a.Ns.length qb,v:=v4} w0 G0 (w4.setCell ⟨C.mb,11,none⟩ v4) F' {st with a:={st.a with Ns:=st.a.Ns++[N1]}}∧bL (w4.setCell ⟨C.mb,11,none⟩ v4) qb F2 N1:=by
 obtain⟨Fs,hF,hp⟩:=h.aC.pool;have hml:C.mb<w.heap.size:=h.aC.met.lt;have kD:=Qc hgr;have jC:Mod (C.mb::C.v.ownBlock.toList) w (w4.setCell ⟨C.mb,11,none⟩ v4):=(kD.more (fun k hk=>by simp at hk⊢;exact .inr hk)).ak (.inl (by simp)) 11 v4
 have hS:∀q∈C.mb::C.v.ownBlock.toList,q∈C.foot F:=fun q hq=>by
  rcases List.mem_cons.1 hq with e|e
  ·exact aY.2 (.inl e)
  ·exact aY.2 (.inr (.inr (.inr (by simpa using e))))
 have hlts:=h.iE
 have hFn:∀q∈F,q∉C.mb::C.v.ownBlock.toList:=fun q hq dK=>by
  rcases List.mem_cons.1 dK with e|e
  ·exact h.hp.mb h.aC.pool (show C.mb∈F from e▸hq)
  ·exact h.AQ q (by simpa using e) (by show q∈C.mb::(C.s.blocks++F);simp[hq])
 have hbn:∀q∈C.s.blocks,q∉C.mb::C.v.ownBlock.toList:=fun q hq dK=>by
  rcases List.mem_cons.1 dK with e|e
  ·exact(h.aC.apart q hq).2.1 e
  ·exact h.AQ q (by simpa using e) (by show q∈C.mb::(C.s.blocks++F);simp[hq])
 have afk:∀q∈F2,q∉C.mb::C.v.ownBlock.toList:=fun q hq dK=>(hF2 q hq).1 (hS q dK);have XG:=hA.mod jC afk;have ahr:(C.A.more st.a.Ns.length qb).dW=C.A.dW:=rfl;have zq:∀i,i<st.a.Ns.length→∀q∈Fs i,q∈F:=fun i hi q hq=>hF▸aM.2 (.inl ⟨i,hi,hq⟩);have vN:∀q∈C.A.dW st.a.cop,q∈F:=fun q hq=>hF▸aM.2 (.inr hq);have hff:∀q∈F,q∈C.foot F:=fun q hq=>aY.2 (.inr (.inr (.inl hq)))
 have hl1:(st.a.Ns++[N1]).length=st.a.Ns.length+1:=by simp
 have hget:∀(i:Nat) (X:Nd),(st.a.Ns++[N1])[i]?=some X→(i=st.a.Ns.length∧X=N1)∨(i<st.a.Ns.length∧st.a.Ns[i]?=some X):=fun i X hX=>by
  by_cases hi:i<st.a.Ns.length
  ·rw[List.getElem?_append_left hi]at hX;exact .inr ⟨hi,hX⟩
  ·have:=bG hX;rw[List.getElem?_append_right (by omega)]at hX
   have h0:i-st.a.Ns.length=0:=by omega
   rw[h0]at hX;cases hX;exact .inl ⟨by omega,rfl⟩
 have hin:∀q,q∈gK (C.A.more st.a.Ns.length qb) (fun i=>if i=st.a.Ns.length then F2 else Fs i) {st.a with Ns:=st.a.Ns++[N1]}→q∈F∨q∈F2:=fun q hq=>by
  rcases aM.1 hq with⟨i,hi,hq2⟩|hq2
  ·have hi':i<st.a.Ns.length+1:=by simpa using hi
   by_cases e1:i=st.a.Ns.length
   ·simp only[if_pos e1]at hq2;exact .inr hq2
   ·simp only[if_neg e1]at hq2;exact .inl (zq i (by omega) q hq2)
  ·exact .inl (vN q hq2)
 have hP:iN W0 C.mb H (C.A.more st.a.Ns.length qb) (w4.setCell ⟨C.mb,11,none⟩ v4) (fun i=>if i=st.a.Ns.length then F2 else Fs i) {st.a with Ns:=st.a.Ns++[N1]}:=by
  refine⟨fun i X hX=> ?_,hp.dir.mod jC (hFn _ (vN _ (by simp[cB.dW]))) (hFn _ (vN _ (by simp[cB.dW]))),fun next lf hc=>(hp.cop next lf hc).mod jC (fun q hq=>hFn q (vN q (by have hc':st.a.cop=some (next,lf):=hc;unfold cB.dW;rw[hc'];simp at hq⊢;omega))),fun i j hi hj hij q hq hq2=> ?_,fun i hi q hq hq2=> ?_,fun q hq=> ?_,fun hq=> ?_,by show(st.a.Ns++[N1]).length≤32;omega⟩
  ·rcases hget i X hX with⟨rfl,rfl⟩|⟨h1,h2⟩
   ·simp only[if_pos];exact⟨by show bL _ (if _ then qb else _) _ _;rw[if_pos rfl];exact XG,hO⟩
   ·simp only[if_neg (show i≠st.a.Ns.length by omega)];exact⟨by show bL _ (if _ then qb else _) _ _;rw[if_neg (by omega)];exact(hp.lK i X h2).1.mod jC (fun q hq=>hFn q (zq i h1 q hq)),(hp.lK i X h2).2⟩
  ·have hi':i<st.a.Ns.length+1:=by simpa using hi
   have hj':j<st.a.Ns.length+1:=by simpa using hj
   by_cases e1:i=st.a.Ns.length<;>by_cases e2:j=st.a.Ns.length
   ·exact hij (e1.trans e2.symm)
   ·simp only[if_pos e1]at hq;simp only[if_neg e2]at hq2;exact(hF2 q hq).1 (hff q (zq j (by omega) q hq2))
   ·simp only[if_neg e1]at hq;simp only[if_pos e2]at hq2;exact(hF2 q hq2).1 (hff q (zq i (by omega) q hq))
   ·simp only[if_neg e1]at hq;simp only[if_neg e2]at hq2;exact hp.sep i j (by omega) (by omega) hij q hq hq2
  ·have hi':i<st.a.Ns.length+1:=by simpa using hi
   by_cases e1:i=st.a.Ns.length
   ·simp only[if_pos e1]at hq;exact(hF2 q hq).1 (hff q (vN q hq2))
   ·simp only[if_neg e1]at hq;exact hp.wu i (by omega) q hq hq2
  ·rcases hin q hq with h1|h1
   ·exact hp.low q (hF▸h1)
   ·exact(hF2 q h1).2.2
  ·rcases hin _ hq with h1|h1
   ·exact hp.mb (hF▸h1)
   ·exact(hF2 _ h1).1 (aY.2 (.inl rfl))
 refine⟨_,h.adF (C.A.more st.a.Ns.length qb) v4 {st with a:={st.a with Ns:=st.a.Ns++[N1]}} jC hS ((h.aC.aC.mod jC hbn).abt (fun id hid=>(aaG (zT id hid)).symm)) ⟨_,rfl,hP⟩ ⟨rfl, ?_⟩ ?_ ?_ (fun q hq=> ?_) (fun g hg=>⟨?_,fun hh hq=> ?_⟩),XG⟩
 ·exact((Met.blk h.aC.met).mod kD (fun hq=>h.AQ C.mb (Option.mem_toList.1 hq) (by show C.mb∈C.mb::_;simp))).ak 11 v4
 ·show(w4.setCell ⟨C.mb,11,none⟩ v4).ownsRow W0.heap.size 122 1 v4 (st.a.Ns++[N1]).length (jJ (C.A.more st.a.Ns.length qb) (st.a.Ns++[N1]).length);rw[hl1,aaF];refine jI (S:=[C.mb]) hown ((Mod.refl _ w4).ak (.inl (by simp)) 11 v4) (fun k hk Ju=> ?_);have hk2:k=C.mb:=List.mem_singleton.1 Ju;rcases hgr.at_ with e|⟨g,e,hgl⟩
  ·exact h.AQ k (e▸hk) (by show k∈C.mb::_;simp[hk2])
  ·rw[e]at hk;have:=Option.some.inj hk;omega
 ·show 1≤(st.a.Ns++[N1]).length;omega
 ·rcases hin q hq with h1|h1
  ·exact .inl h1
  ·exact .inr ⟨(hF2 q h1).2.1,(hF2 q h1).1⟩
 ·rcases hgr.at_ with e|⟨g',e,hgl⟩
  ·exact .inl (e▸hg)
  ·rw[e]at hg;have:=Option.some.inj hg;exact .inr (by omega)
 ·rcases hin g hq with h1|h1
  ·have:=hlts g (hff g h1);omega
  ·have:=hA.iE g h1;omega
theorem aF.take (h:aF W0 E H C w0 G0 w F st){c:Nat×List Nat}(hc:st.a.cop=some c){w1:World}(hD:cu w1 C.A.fb C.A.fe (st.a.d+1) c.2)(hm:Mod [C.A.cb] w w1):
  ∃F',aF W0 E H {C with A:={C.A with db:=C.A.fb,eb:=C.A.fe},v:=C.v} w0 G0 ((w1.setCell ⟨C.mb,12,none⟩ (.pointer (some ⟨C.A.fb,0,none⟩))).setCell ⟨C.mb,13,none⟩ (.pointer none)) F' {st with a:={st.a with d:=st.a.d+1,l:=c.2,cop:=none}}:=by
 obtain⟨Fs,hF,hp⟩:=h.aC.pool;have hm2:Mod [C.A.cb,C.mb] w ((w1.setCell ⟨C.mb,12,none⟩ (.pointer (some ⟨C.A.fb,0,none⟩))).setCell ⟨C.mb,13,none⟩ (.pointer none)):=((hm.more (fun k hk=>by simp at hk⊢;exact .inl hk)).ak (.inl (by simp)) _ _).ak (.inl (by simp)) _ _
 have hmd:∀q∈[C.A.cb,C.A.fb,C.A.fe],q∈C.A.dW st.a.cop:=fun q hq=>by
  unfold cB.dW;rw[hc];simp at hq⊢;omega
 have vN:∀q∈C.A.dW st.a.cop,q∈F:=fun q hq=>hF▸aM.2 (.inr hq);have hmb:∀q∈F,q≠C.mb:=fun q hq e=>h.hp.mb h.aC.pool (show C.mb∈F from e▸hq);have aeB:=(hp.cop c.1 c.2 hc).nd;simp at aeB
 have hD2:cu ((w1.setCell ⟨C.mb,12,none⟩ (.pointer (some ⟨C.A.fb,0,none⟩))).setCell ⟨C.mb,13,none⟩ (.pointer none)) C.A.fb C.A.fe (st.a.d+1) c.2:=
  hD.mod (S:=[C.mb]) (((Mod.refl _ w1).ak (.inl (by simp)) _ _).ak (.inl (by simp)) _ _) (fun hq=>hmb _ (vN _ (hmd _ (by simp))) (List.mem_singleton.1 hq)) (fun hq=>hmb _ (vN _ (hmd _ (by simp))) (List.mem_singleton.1 hq))
 have hin:∀q,q∈gK ({C.A with db:=C.A.fb,eb:=C.A.fe}:cB) Fs {st.a with d:=st.a.d+1,l:=c.2,cop:=none}→q∈F:=fun q hq=>by
  rcases aM.1 hq with⟨i,hi,hq2⟩|hq2
  ·exact hF▸aM.2 (.inl ⟨i,hi,hq2⟩)
  ·refine vN q (hmd q ?_);unfold cB.dW at hq2;simp at hq2⊢;omega
 have abu:∀i,i<st.a.Ns.length→∀q∈Fs i,q∉[C.A.cb,C.A.fb,C.A.fe]:=fun i hi q hq hq2=>hp.wu i hi q hq (hmd q hq2);have zq:∀i,i<st.a.Ns.length→∀q∈Fs i,q∈F:=fun i hi q hq=>hF▸aM.2 (.inl ⟨i,hi,hq⟩)
 have hS:∀q∈[C.A.cb,C.mb],q∈C.foot F:=fun q hq=>by
  simp at hq;rcases hq with rfl|rfl
  ·exact aY.2 (.inr (.inr (.inl (vN _ (hmd _ (by simp))))))
  ·exact aY.2 (.inl rfl)
 have hP:iN W0 C.mb H ({C.A with db:=C.A.fb,eb:=C.A.fe}:cB) ((w1.setCell ⟨C.mb,12,none⟩ (.pointer (some ⟨C.A.fb,0,none⟩))).setCell ⟨C.mb,13,none⟩ (.pointer none)) Fs {st.a with d:=st.a.d+1,l:=c.2,cop:=none}:=
  ⟨fun i N hN=>⟨(hp.lK i N hN).1.mod hm2 (fun q hq dK=>by
    simp at dK;rcases dK with h1|h1
    ·exact abu i (bG hN) q hq (by simp[h1])
    ·exact hmb q (zq i (bG hN) q hq) h1),(hp.lK i N hN).2⟩,hD2,fun next lf he=>(by cases he),hp.sep,fun i hi q hq hq2=>abu i hi q hq (by unfold cB.dW at hq2;simp at hq2⊢;omega),fun q hq=>hp.low q (hF▸hin q hq),fun hq=>hmb _ (hin _ hq) rfl,hp.yG⟩
 refine⟨_,h.upd {C.A with db:=C.A.fb,eb:=C.A.fe} C.v {st with a:={st.a with d:=st.a.d+1,l:=c.2,cop:=none}} hm2 hS (h.aC.aC.mod hm2 (fun q hq dK=> ?_)) ⟨Fs,rfl,hP⟩ ⟨rfl, ?_⟩ (lV (st:=st) h hm2 (fun q hq=> ?_)) h.pos (fun q hq=> .inl (hin q hq)) (fun g hg=>⟨.inl hg,fun hh=>by have:=(h.row.lt g hg).2;omega⟩)⟩
 ·have ha:=h.aC.apart q hq;simp at dK;rcases dK with h1|h1
  ·exact ha.1 (vN q (hmd q (by simp[h1])))
  ·exact ha.2.1 h1
 ·exact(((Met.blk h.aC.met).mod hm (fun hq=>hmb _ (vN _ (hmd C.A.cb (by simp))) (List.mem_singleton.1 hq).symm)).ak 12 _).ak 13 _
 ·simp at hq;rcases hq with h1|h1
  ·exact .inr (.inr (vN q (hmd q (by simp[h1]))))
  ·exact .inl h1
end
end
section
variable {W0 w w0 : World} {E : Nat → Addr} {H : Nat → Nat} {C : iO} {F G0 : List Nat} {st : mW}
theorem UU:(Tryz.prog.info? 122).map (fun i=>(i.zero,i.size,i.bytes))=some (some (.pointer none),1,8):=by kernel_rfl
theorem UW:qc Tryz.prog 131 122 1 8:=xH Tryz.underlying131 UU rfl (by decide) (by decide)
inductive BX (H:Nat→Nat):Pool→Nat→Pool→Prop
 |take {a:Pool} {c:Nat×List Nat} (hc:a.cop=some c) (hl:c.1=a.l.length):BX H a 32 {a with d:=a.d+1,l:=c.2,cop:=none}
 |one {a:Pool} {id:Nat} {N:Nd} {X:aD} (hN:a.Ns[id]?=some N) (hb:N.ph.busy=true) (hl:N.left=0) (ho:eu H N) (hm:N.many=1) (hk:eu H ⟨N.pfx,N.au,0,0,X,.idle⟩) (he:(Nd.mk N.pfx N.au 0 0 X .idle).ents=N.ents) (hx:X.gs.length=N.each):BX H a id {a with Ns:=a.Ns.set id ⟨N.pfx,N.au,0,0,X,.idle⟩}
 | two {a : Pool} {id : Nat} {N : Nd} {X Y : aD} (hN : a.Ns[id]? = some N) (hb : N.ph.busy = true) (hl : N.left = 0) (ho : eu H N) (hm : N.many = 2) (hd : N.au < a.d) (hk : eu H ⟨2 * N.pfx, N.au + 1, 0, 0, X, .idle⟩) (hk2 : eu H ⟨2 * N.pfx + 1, N.au + 1, 0, 0, Y, .idle⟩)
   (he:(Nd.mk (2*N.pfx) (N.au+1) 0 0 X .idle).ents++(Nd.mk (2*N.pfx+1) (N.au+1) 0 0 Y .idle).ents=N.ents) (hx:X.gs.length=N.each) (hy:Y.gs.length=N.each):BX H a id (a.split id ⟨2*N.pfx,N.au+1,0,0,X,.idle⟩ ⟨2*N.pfx+1,N.au+1,0,0,Y,.idle⟩)
def uF (W0:World)(E:Nat→Addr)(H:Nat→Nat)(C:iO)(w0:World)(G0:List Nat)(st:mW)(id:Nat)(w':World):Prop:=∃(A':cB) (v':Value) (F':List Nat) (a':Pool) (x':bJ) (u:Nat),BX H st.a id a'∧aF W0 E H {C with A:=A',v:=v'} w0 G0 w' F' {st with a:=a',x:=x'}∧dV st.x x' 0 u
theorem Nn (h:aF W0 E H C w0 G0 w F st)(c:Nat×List Nat)(hc:st.a.cop=some c)(hl:c.1=st.a.l.length):Calls Tryz.prog 103 #[bU C.mb,.int .i64 ((32:Nat):Int)] w fun e w'=>e= .returned undef∧uF W0 E H C w0 G0 st 32 w':=by
 have HC:=qd h;obtain⟨c0,c1,c11,c12,c13,c14,c15⟩:=HC.out.cells;obtain⟨Fs,hF,hp⟩:=h.aC.pool;unfold lM at c13;rw[hc]at c13;simp only[Option.isSome_some,if_true]at c13;have HT:=qd (Pv C.A.cb C.A.db C.A.eb C.A.fb C.A.fe st.a.d c.1 st.a.l c.2 hl w (hp.cop c.1 c.2 hc));have hcm:C.mb≠C.A.cb:=fun e=>hp.mb (aM.2 (.inr (by unfold cB.dW;rw[hc];simp[e])));have HcM:=qd hcm;have AU:=qd hc;have HHl:=qd hl;clear h hF hp hcm hc hl;unfold qm iB at HT;unfold bU;go_in;go_wp2_with fail;refine HT.out.mono ?_;rintro x w1 ⟨rfl,hD,hm⟩;have HD:=qd hD;have HM:=qd hm;have hB:=(Met.blk HC.out.aC.met).mod hm (fun hq=>HcM.out (List.mem_singleton.1 hq));have d12:w1.cell? ⟨C.mb,12,none⟩=some (.pointer (some ⟨C.A.db,0,none⟩)):=hB.cell 12;have d13:w1.cell? ⟨C.mb,13,none⟩=some (lM C.A st.a.cop):=hB.cell 13;unfold lM at d13;have g12:w1.frozen? ⟨C.mb,12,none⟩=false:=hB.frozen 12;have g13:w1.frozen? ⟨C.mb,13,none⟩=false:=hB.frozen 13;clear c0 c1 c11 c12 c13 c14 c15 hB hD hm HT;go_wp2_with fail;refine(ZP (some ⟨C.A.fb,0,none⟩) w1).mono ?_;rintro x w2 ⟨rfl,rfl⟩;go_wp2;refine bodyPost_ret (results_none rfl _ _ _) rfl ?_;obtain⟨F',hC'⟩:=HC.out.take AU.out HD.out HM.out;have hfin:uF W0 E H C w0 G0 st 32 _:=⟨_,_,F',_,st.x,0,.take AU.out HHl.out,hC',dV.refl _⟩
 first|exact⟨rfl,hfin⟩|exact hfin
theorem Qd (h:aF W0 E H C w0 G0 w F st)(id:Nat)(N:Nd)(hN:st.a.Ns[id]?=some N)(hb:N.ph.busy=true)(hl:N.left=0)(hm1:N.many=1):Calls Tryz.prog 103 #[bU C.mb,.int .i64 ((id:Nat):Int)] w fun e w'=>e= .returned undef∧uF W0 E H C w0 G0 st id w':=by
 have HC:=qd h;obtain⟨c0,c1,c11,c12,c13,c14,c15⟩:=HC.out.cells;obtain⟨Fs,hF,hp⟩:=h.aC.pool;have hid:=bG hN;have hle:=hp.yG
 have h32:¬(id:Int)=32:=by omega
 obtain⟨vb,cap,hv,hr⟩:=h.rowAt;rw[hv]at c11;have cr:=hr id hid
 have hn':(id:Int)<(st.a.Ns.length:Int):=by omega
 have hi0:(0:Int)≤(id:Int):=by omega
 obtain⟨Fi,hA,hO,hmb,hlow,hFi,hnx⟩:=h.node hN;have HE:=qd (UJ hA hO hb hl hm1);have HX:=qd hnx;have HP:=qd (And.intro hN (And.intro hb (And.intro hl (And.intro hO hm1))));have HMb:=qd hmb;clear h hp hF hv hr hN hA hO hb hl hm1 hlow hFi hnx hmb hid hle;generalize st.a.Ns.length=n at*;unfold aR at HE;unfold bU;go_in;go_wp2_with fail;refine HE.out.mono ?_;rintro x w1 ⟨rfl,X,F',h1,h2,h3,h4,h5,h6⟩;obtain⟨F2,hC'⟩:=HX.out w1 F' Fi _ st.x h1 h2 (fun q hq=> .inl (h5 q hq)) (HC.out.aC.met.mod h6 HMb.out) h6 (fun q hq=> .inr hq);have yI:=qd hC';have HE2:=qd (BX.one (X:=X) HP.out.1 HP.out.2.1 HP.out.2.2.1 HP.out.2.2.2.1 HP.out.2.2.2.2 h2 h3 h4);clear hC' h1 h2 h3 h4 h5 h6 HE HX HP c0 c1 c11 c12 c13 c14 c15 cr;go_wp2_with fail;refine(Lc none w1).mono ?_;rintro x w2 ⟨rfl,rfl⟩;go_wp2;refine bodyPost_ret (results_none rfl _ _ _) rfl ?_;have hfin:uF W0 E H C w0 G0 st id _:=⟨C.A,C.v,F2,_,st.x,0,HE2.out,yI.out,dV.refl _⟩
 first|exact⟨rfl,hfin⟩|exact hfin
theorem aaH (h:aF W0 E H C w0 G0 w F st)(p pd id:Nat)(h1:pd≤st.a.d)(hp:p<2^pd):Calls Tryz.prog 167 #[bU C.mb,.int .i64 (p:Int),.int .i64 (pd:Int),.int .i64 (id:Int)] w fun e w'=>∃n,1≤n∧e= .returned (.int .i64 ((n:Nat):Int))∧aF W0 E H C w0 G0 w' F {st with a:={st.a with l:=jE st.a.l (bS p pd st.a.d) id (2^(st.a.d-pd)),cop:=st.a.cop.map fun c=>(c.1,qp c.2 (jE st.a.l (bS p pd st.a.d) id (2^(st.a.d-pd))) (bS p pd st.a.d) (min (bS p pd st.a.d+2^(st.a.d-pd)) c.1-bS p pd st.a.d))}}:=by
 cases hc:st.a.cop with
 |none=>have:=Nk h p pd id h1 hp hc;rw[hc]at this;exact this
 |some c=>have:=Nl h p pd id h1 hp c hc;rw[hc]at this;exact this
theorem Qe (h:aF W0 E H C w0 G0 w F st)(hd:eO st.a)(zT:∀i∈st.ids,i≠st.a.Ns.length)(id:Nat)(N:Nd)(hN:st.a.Ns[id]?=some N)(hb:N.ph.busy=true)(hl:N.left=0)(hm2:N.many=2):Calls Tryz.prog 103 #[bU C.mb,.int .i64 ((id:Nat):Int)] w fun e w'=>e= .returned undef∧uF W0 E H C w0 G0 st id w':=by
 have HC:=qd h;obtain⟨c0,c1,c11,c12,c13,c14,c15⟩:=HC.out.cells;obtain⟨Fs,hF,hp⟩:=h.aC.pool;have hid:=bG hN;have hle:=hp.yG
 have h32:¬(id:Int)=32:=by omega
 obtain⟨vb,cap,hv,hr⟩:=h.rowAt;rw[hv]at c11;have cr:=hr id hid
 have hn':(id:Int)<(st.a.Ns.length:Int):=by omega
 have hi0:(0:Int)≤(id:Int):=by omega
 have hpos:=h.pos;have hfit:=hd.fit id N hN
 have hlt:N.au<st.a.d:=hd.split id N hN hb (by
  unfold Nd.many at hm2;by_cases hk:N.kind=3
  ·exact hk
  ·rw[if_neg hk]at hm2;omega)
 have NG:st.a.Ns.length+1≤32:=by
  have hs:=(hd.XF (N0:=⟨2*N.pfx,N.au+1,0,0,N.T,.idle⟩) (N1:=⟨2*N.pfx+1,N.au+1,0,0,N.T,.idle⟩) hN hlt ⟨rfl,rfl,rfl⟩ ⟨rfl,rfl,rfl⟩).nodes;have h5:=hp.dir.le;have h6:2^st.a.d≤2^5:=Nat.pow_le_pow_right (by decide) h5
  have h7:(st.a.split id ⟨2*N.pfx,N.au+1,0,0,N.T,.idle⟩ ⟨2*N.pfx+1,N.au+1,0,0,N.T,.idle⟩).Ns.length=st.a.Ns.length+1:=by unfold Pool.split;simp
  have h8:(st.a.split id ⟨2*N.pfx,N.au+1,0,0,N.T,.idle⟩ ⟨2*N.pfx+1,N.au+1,0,0,N.T,.idle⟩).d=st.a.d:=rfl;rw[h7,h8]at hs;omega
 obtain⟨Fi,hA,hO,hnx⟩:=h.two hN;have HE:=qd (UK hA hO hb hl hm2);have HX:=qd hnx;have HP:=qd (And.intro hN (And.intro hb (And.intro hl (And.intro hO (And.intro hm2 hlt)))));have afl:=qd zT;have HH:=qd NG;have HV:=qd hv;have HFt:=qd hfit;have hn32:st.a.Ns.length≤32:=hle;obtain⟨n,hn⟩:∃n,n=st.a.Ns.length:=⟨_,rfl⟩;rw[←hn]at c11 hn' hn32 hpos NG;have HN:=qd hn;clear h hp hF hv hr hN hA hO hb hl hm2 hnx hid hle hd zT hfit hlt hn;unfold aR at HE;unfold bU;go_in;go_wp2_with fail;refine HE.out.mono ?_;rintro x w1 ⟨qb,rfl,Av,_,X,Y,F',F2,a1,a2,a3,a4,a5,a6,a7,a8,a9,zY,CK⟩;obtain⟨Fn,b1,b2⟩:=HX.out w1 F' F2 Fi _ _ qb a1 a3 a2 a8 a9 zY CK (fun q hq=>hq);have wK:=qd b1;have HA1:=qd a2;have OV:=qd b2;have HE2:=qd (BX.two (X:=X) (Y:=Y) HP.out.1 HP.out.2.1 HP.out.2.2.1 HP.out.2.2.2.1 HP.out.2.2.2.2.1 HP.out.2.2.2.2.2 a3 a4 a5 a6 a7);have Cq:=qd a4
 have hln:(st.a.Ns.set id (Nd.mk (2*N.pfx) (N.au+1) 0 0 X .idle)).length=n:=by rw[List.length_set,HN.out]
 have oO:=qd hln;clear b1 b2 a1 a2 a3 a4 a5 a6 a7 a8 a9 zY CK HE HX HC hln c0 c1 c11 c12 c13 c14 c15 cr;go_wp2_with fail;refine(Lc (some ⟨qb,0,none⟩) w1).mono ?_;rintro x w2 ⟨rfl,rfl⟩;obtain⟨c0,c1,c11,c12,c13,c14,c15⟩:=wK.out.cells;rw[HV.out]at c11;have yY:=wK.out.row
 have hO2:w1.ownsRow W0.heap.size 122 1 C.v n (jJ C.A n):=by
  have:=yY;rw[show({st with a:={st.a with Ns:=st.a.Ns.set id (Nd.mk (2*N.pfx) (N.au+1) 0 0 X .idle)}}:mW).a.Ns.length=n from oO.out]at this;exact this
 rw[HV.out,←HN.out]at hO2;rw[←HN.out]at c11
 have hBm:∀(V:World) (v4:Value),jL w1 W0.heap.size C.v V v4→V.cell? ⟨C.mb,11,none⟩=some C.v∧V.frozen? ⟨C.mb,11,none⟩=false:=fun V v4 hg=>by
  have hb:=(Met.blk wK.out.aC.met).mod (Qc hg) (fun hq=>wK.out.AQ C.mb (Option.mem_toList.1 hq) (by show C.mb∈C.mb::_;simp));exact⟨hb.cell 11,hb.frozen 11⟩
 rw[HV.out,←HN.out]at hBm;have SI:=qd hBm;have HV2:=qd (show C.v= .slice (some ⟨vb,0,none⟩) n cap from by rw[HV.out,HN.out]);clear yY hBm;have hlw:W0.heap.size≤w1.heap.size:=wK.out.aC.env.size;go_upto_region 5 with fail
 go_upto_region 6 with(at_builtin;refine aB rfl rfl UW hO2 rfl rfl rfl rfl rfl (by omega) (by omega) ?_;intro v4 w4 dh gN;obtain⟨A4,c4,rfl⟩:=aH dh;obtain⟨d11,g11⟩:=SI.out _ _ gN)
 obtain⟨F3,Cz,hA3⟩:=wK.out.grow HA1.out Cq.out OV.out (show∀i∈st.ids,i≠(st.a.Ns.set id (Nd.mk (2*N.pfx) (N.au+1) 0 0 X .idle)).length from by rw[List.length_set];exact afl.out) (show(st.a.Ns.set id (Nd.mk (2*N.pfx) (N.au+1) 0 0 X .idle)).length+1≤32 from by rw[List.length_set];exact HH.out) (v4:= .slice A4 (n+1) c4) (w4:=w4) (show w4.ownsRow W0.heap.size 122 1 (.slice A4 (n+1) c4) ((st.a.Ns.set id (Nd.mk (2*N.pfx) (N.au+1) 0 0 X .idle)).length+1) (jJ C.A (st.a.Ns.set id (Nd.mk (2*N.pfx) (N.au+1) 0 0 X .idle)).length++[.pointer (some ⟨qb,0,none⟩)])from by rw[oO.out];exact dh) (by rw[HV2.out];exact gN);refine dx (F:=fun v=>aF W0 E H {C with A:=C.A.more (st.a.Ns.set id (Nd.mk (2*N.pfx) (N.au+1) 0 0 X .idle)).length qb,v:= .slice A4 (n+1) c4} w0 G0 v F3 {st with a:={st.a with Ns:=st.a.Ns.set id (Nd.mk (2*N.pfx) (N.au+1) 0 0 X .idle)++[Nd.mk (2*N.pfx+1) (N.au+1) 0 0 Y .idle]}}∧bL v qb F2 (Nd.mk (2*N.pfx+1) (N.au+1) 0 0 Y .idle)) ⟨Cz,hA3⟩ ?_;rintro w5 ⟨XH,XG⟩;obtain⟨pp,hpp⟩:∃pp,pp=2*N.pfx+1:=⟨_,rfl⟩;obtain⟨dd,hdd⟩:∃dd,dd=N.au+1:=⟨_,rfl⟩;have XI:=qd (show Calls Tryz.prog 166 #[aR qb] w5 fun e w'=>e= .returned (.tuple #[.int .i64 (pp:Int),.int .i64 (dd:Int)])∧w5.drew=w' from by rw[hpp,hdd];exact LY XG);have HPp:=qd hpp;have XJ:=qd hdd;have XK:=qd XH;unfold aR at XI;clear c0 c1 c11 c12 c13 c14 c15 Cz hA3 dh gN d11 g11 hO2 SI hpp hdd XH XG;go_wp2_with fail;refine XI.out.mono ?_;rintro x w6 ⟨rfl,hd6⟩
 have hb6:Below w5.heap.size w5 w6:=hd6▸(Below.refl _ _).drew;have iP:=qd (XK.out.below hb6);have e11:w6.cell? ⟨C.mb,11,none⟩=some (.slice A4 (n+1) c4):=iP.out.cells.2.2.1;have sW:=qd (iP.out.below (Below.refl w6.heap.size w6).drew);have hfit:=HFt.out;have afm:=HP.out.2.2.2.2.2;have jT:=qd (aaH sW.out pp dd n (show dd≤st.a.d from by rw[XJ.out];omega) (by rw[HPp.out,XJ.out,Nat.pow_succ];omega))
 have hw1:IntKind.i64.wrap (n:Int)=(n:Int):=by rw[IntKind.wrap_i64];omega
 have hw2:IntKind.i64.wrap ((n:Int)+1-1)=(n:Int):=by rw[show(n:Int)+1-1=(n:Int) by omega];exact hw1
 clear hd6 hb6 XI XK iP hfit afm;unfold bU at jT;go_wp2_with fail;refine rT (fun(w':World)=>w'.cell? ⟨C.mb,11,none⟩=some (.slice A4 (n+1) c4)) [12,13] ?_;have hHeld:=e11;refine vW 0 rfl ?_;refine vW 1 rfl ?_;refine vW 2 rfl ?_;refine vW 3 rfl ?_;refine vW 4 rfl ?_;refine vW 5 rfl ?_;refine vW 6 rfl ?_;refine vW 7 rfl ?_;refine vW 8 rfl ?_;refine nT 9 rfl fun K hK=> ?_;go_simp;refine kO hK ?_;clear hK K;refine vW 10 rfl ?_;refine vW 11 rfl ?_;refine nT 12 rfl fun K hK=> ?_;go_simp;refine(jT.out).mono ?_;rintro y w8 ⟨k,hk1,rfl,XL⟩;have Mc:=qd XL;clear XL;have HUn:=qd (Ec Mc.out k hk1);go_wp2_with fail;refine kO hK ?_;clear hK K;refine nT 13 rfl fun K hK=> ?_;go_simp;refine(HUn.out).mono ?_;rintro y w9 ⟨rfl,hC9⟩;have F5:=qd hC9;clear hC9 HUn;go_wp2_with fail;refine kO hK ?_;clear hK K;refine aX (by kernel_rfl) ?_ _;go_wp2;go_end0;have hC9:=F5.out;have hpp:=HPp.out;have hdd:=XJ.out;have hn9:=HN.out;subst hpp hdd hn9;have hfin:uF W0 E H C w0 G0 st id _:=⟨_,_,_,_,_,k,HE2.out,hC9,sU st.x k⟩
 first|exact⟨rfl,hfin⟩|exact hfin
end
end Go.Proofs.YtjfgpnapccdnlaaGreatDoor
