/- A core's Put by its contract. -/
import Derived.Test.YtbfpfgfgfjhpfaaGreatDoorCoCY
import Derived.Test.YtbfpfgfgfjhpfaaGreatDoorPlA
import Derived.Test.YtbfpfgfgfjhpfaaGreatDoorSq
import Derived.Test.YtbfpfgfgfjhpfaaGreatDoorCoBQ
namespace Go.Proofs.YtbfpfgfgfjhpfaaGreatDoor
set_option maxRecDepth 100000
set_option maxHeartbeats 4000000
open Go.RowKit dP Go.Maps
section
variable {W0 w w0 : World} {E : Nat → Addr} {H : Nat → Nat} {C : jf} {F G0 : List Nat} {st : nC}
theorem Pk (h:aD W0 E H C w0 G0 w F st)(hi:lg st.a st.ids [])(e:av)(he:nS H e)(hk:∀y∈st.a.ents,y.key≠e.key)(hle:st.len<C.M)(hln:st.len=st.a.ents.length):Calls Tryz.prog 45 #[bM C.mb,.int .u64 (e.key:Int),.int .u64 (e.val:Int),.int .u64 (e.hash:Int)] w fun y w'=>y= .returned (.nilIface)∧∃id,Em W0 E H C w0 G0 st id [] [e] (st.len+1) w':=by
 have h64:=he.h64;have dU:=qd he;have mP:=qd hln;have ng:=qd (qg h);have hbd:=h.bounds;have qj:=qd hbd;have HI:=qd hi;obtain⟨N,hN,htp⟩:=hi.dir.at_ h64 hbd.1;have DR:=qd htp;obtain⟨id,hid⟩:∃id,id=st.a.l.getD (eF (e.hash) st.a.d) 0:=⟨_,rfl⟩;rw[←hid]at hN;have HN:=qd hN;have oz:=qd hid;clear hln he h hi hbd hN hid htp;unfold bM
 have hlt:(st.len:Int)<(C.M:Int):=by omega
 go_in;go_wp2_with fail;refine ng.out.mono ?_;rintro y w1 ⟨rfl,h1⟩;have HC:=qd h1;clear h1 ng;have pJ:=qd (xH HC.out (e.hash) id h64 oz.out.symm (bN HN.out));unfold bM aP at pJ;go_wp2_with fail;refine pJ.out.mono ?_;rintro y w2 ⟨rfl,hb⟩;replace HC:=qd (HC.out.below hb);clear hb pJ;obtain⟨c0,c1,c11,c12,c13,c14,c15⟩:=HC.out.cells;go_upto_region 3 with fail;go_region;clear c0 c1 c11 c12 c13 c14 c15;replace HC:=qd (HC.out.below (Below.refl w2.heap.size w2).drew);go_wp2_with fail;refine(lu (some ⟨C.mb,3,none⟩) (World.drew w2)).mono ?_;rintro y w3 ⟨rfl,hb⟩;replace HC:=qd (HC.out.below hb);clear hb;obtain⟨Fi,n1,n2,n3,n4,n5,n6⟩:=HC.out.node HN.out;have hNe:∀y∈N.ents,y.key≠e.key:=fun y hy=>hk y (mI.2 ⟨id,N,HN.out,hy⟩)
 have Oz:N.ents.length+1≤192:=by
  obtain⟨B,B',b1,_⟩:=sH (N':=N) HN.out
  have h1:st.a.ents.length=(B++(N.ents++B')).length:=by unfold Pool.ents;rw[b1]
  rw[List.length_append,List.length_append]at h1;have h2:=HC.out.mm.2;have h3:=mP.out;omega
 have hsl:=HI.out.sl id N HN.out (by simp);have jT:=qd (Ud e n1 n2 dU.out DR.out HC.out.aB.met HC.out.aB.env HC.out.aB.uw n3 hNe Oz hsl);have HX:=qd n6;have oq:=qd (fun(N1:Nd) (hw:Wr H [] [e] N N1)=>Pj HI.out HN.out hw);clear n1 n2 n3 n4 n5 n6 hNe hk Oz hsl hlt;unfold aP aR at jT;go_wp2_with fail;refine jT.out.mono ?_;rintro y w4 ⟨rfl,x4,N1,q1,q2,q3,q4,q5⟩;obtain⟨F4,LC⟩:=HX.out w4 Fi _ N1 x4 q1 q2.ok (fun q hq=> .inl hq) q3 q5 (fun q hq=>List.mem_cons.1 hq);have kF:=qd LC;have qK:=qd q4;have vQ:=qd q2;clear LC q1 q2 q3 q4 q5 jT HX HC;obtain⟨c0,c1,c11,c12,c13,c14,c15⟩:=kF.out.cells;have f15:=kF.out.frozen 15;obtain⟨ln,hln⟩:∃ln,ln=st.len+1:=⟨_,rfl⟩;have afw:=kF.out.mm.2
 have hwr:IntKind.i64.wrap ((st.len:Int)+1)=(ln:Int):=by rw[IntKind.wrap_i64]<;>omega
 have iC:=qd hln;have qI:=qd (kF.out.acR ln);clear hln;go_upto_region 10 with fail;refine bU (F:=fun v=>aD W0 E H C w0 G0 v F4 {st with a:={st.a with Ns:=st.a.Ns.set id N1},x:=x4,len:=ln}) qI.out ?_;rintro w6 Ei;clear c0 c1 c11 c12 c13 c14 c15 f15 kF qI hwr;have qI:=qd Ei;have tQ:=qd (wC qI.out.again id N1 (by show(st.a.Ns.set id N1)[id]?=some N1;rw[nE (bN HN.out),if_pos rfl]) (oq.out N1 vQ.out));clear Ei oq;unfold bM aP at tQ;go_wp2_with fail;refine tQ.out.mono ?_;rintro y w7 ⟨rfl,hmt⟩;obtain⟨hmt,_⟩:=hmt.chain qI.out;have ow:=qd hmt;clear hmt tQ qI;go_wp2;refine bodyPost_ret (v:= .nilIface) (by simp[results,Tryz.results45,go_sem]) rfl ⟨rfl,id, ?_⟩;rw[←iC.out];exact⟨N,N1,x4,HN.out,vQ.out,qK.out,ow.out⟩
theorem GR (h:aD W0 E H C w0 G0 w F st)(hi:lg st.a st.ids [])(e:av)(he:nS H e)(e0:av)(he0:e0∈st.a.ents)(hk:e0.key=e.key)(hle:st.len<C.M):Calls Tryz.prog 45 #[bM C.mb,.int .u64 (e.key:Int),.int .u64 (e.val:Int),.int .u64 (e.hash:Int)] w fun y w'=>y= .returned (.nilIface)∧∃id,Em W0 E H C w0 G0 st id [e0] [{e0 with val:=e.val}] st.len w':=by
 have h64:=he.h64;have dU:=qd he;have Ol:=qd he.hash;have ng:=qd (qg h);have hbd:=h.bounds;have qj:=qd hbd;have HI:=qd hi;obtain⟨N,hN,htp⟩:=hi.dir.at_ h64 hbd.1;have DR:=qd htp;obtain⟨id,hid⟩:∃id,id=st.a.l.getD (eF (e.hash) st.a.d) 0:=⟨_,rfl⟩;rw[←hid]at hN;have HN:=qd hN;have oz:=qd hid;clear he h hi hbd hN hid htp;unfold bM
 have hlt:(st.len:Int)<(C.M:Int):=by omega
 go_in;go_wp2_with fail;refine ng.out.mono ?_;rintro y w1 ⟨rfl,h1⟩;have HC:=qd h1;clear h1 ng;have pJ:=qd (xH HC.out (e.hash) id h64 oz.out.symm (bN HN.out));unfold bM aP at pJ;go_wp2_with fail;refine pJ.out.mono ?_;rintro y w2 ⟨rfl,hb⟩;replace HC:=qd (HC.out.below hb);clear hb pJ;obtain⟨c0,c1,c11,c12,c13,c14,c15⟩:=HC.out.cells;go_upto_region 3 with fail;go_region;clear c0 c1 c11 c12 c13 c14 c15;replace HC:=qd (HC.out.below (Below.refl w2.heap.size w2).drew);go_wp2_with fail;refine(lu (some ⟨C.mb,3,none⟩) (World.drew w2)).mono ?_;rintro y w3 ⟨rfl,hb⟩;replace HC:=qd (HC.out.below hb);clear hb;obtain⟨Fi,n1,n2,n3,n4,n5,n6⟩:=HC.out.node HN.out;have hNe:e0∈N.ents:=El HI.out.dir qj.out.1 qj.out.2.2.2 (key:=e.key) (by rw[←Ol.out];exact oz.out.symm) HN.out he0 hk;have jT:=qd (DZ e true n1 n2 Ol.out h64 dU.out.v64 HC.out.aB.met HC.out.aB.env HC.out.aB.uw n3 e0 hNe hk);have HX:=qd n6;have oq:=qd (fun(N1:Nd) (hw:Wr H [e0] [{e0 with val:=e.val}] N N1)=>Pj HI.out HN.out hw);clear n1 n2 n3 n4 n5 n6 hNe hk he0 hlt;unfold aP aR at jT;go_wp2_with fail;refine jT.out.mono ?_;rintro y w4 ⟨rfl,x4,N1,q1,q2,q3,q4,q5⟩;obtain⟨F4,LC⟩:=HX.out w4 Fi _ N1 x4 q1 q2.ok (fun q hq=> .inl hq) q3 q5 (fun q hq=>List.mem_cons.1 hq);have kF:=qd LC;have qK:=qd q4;have vQ:=qd q2;clear LC q1 q2 q3 q4 q5 jT HX HC;obtain⟨ln,hln⟩:∃ln,ln=st.len:=⟨_,rfl⟩;have iC:=qd hln;go_upto_region 10 with fail;obtain⟨w6,o8⟩:∃w6,w6=w4:=⟨_,rfl⟩;rw[←o8]
 have Ei:aD W0 E H C w0 G0 w6 F4 {st with a:={st.a with Ns:=st.a.Ns.set id N1},x:=x4,len:=ln}:=by rw[o8,hln];exact kF.out
 clear kF o8 hln;have qI:=qd Ei;have tQ:=qd (wC qI.out.again id N1 (by show(st.a.Ns.set id N1)[id]?=some N1;rw[nE (bN HN.out),if_pos rfl]) (oq.out N1 vQ.out));clear Ei oq;unfold bM aP at tQ;go_wp2_with fail;refine tQ.out.mono ?_;rintro y w7 ⟨rfl,hmt⟩;obtain⟨hmt,_⟩:=hmt.chain qI.out;have ow:=qd hmt;clear hmt tQ qI;go_wp2;refine bodyPost_ret (v:= .nilIface) (by simp[results,Tryz.results45,go_sem]) rfl ⟨rfl,id, ?_⟩;rw[←iC.out];exact⟨N,N1,x4,HN.out,vQ.out,qK.out,ow.out⟩
theorem GU (h:aD W0 E H C w0 G0 w F st)(hi:lg st.a st.ids [])(e:av)(he:nS H e)(e0:av)(he0:e0∈st.a.ents)(hk:e0.key=e.key)(hle:¬st.len<C.M):Calls Tryz.prog 45 #[bM C.mb,.int .u64 (e.key:Int),.int .u64 (e.val:Int),.int .u64 (e.hash:Int)] w fun y w'=>y= .returned (.nilIface)∧∃id,Em W0 E H C w0 G0 st id [e0] [{e0 with val:=e.val}] st.len w':=by
 have h64:=he.h64;have dU:=qd he;have Ol:=qd he.hash;have ng:=qd (qg h);have hbd:=h.bounds;have qj:=qd hbd;have HI:=qd hi;obtain⟨N,hN,htp⟩:=hi.dir.at_ h64 hbd.1;have DR:=qd htp;obtain⟨id,hid⟩:∃id,id=st.a.l.getD (eF (e.hash) st.a.d) 0:=⟨_,rfl⟩;rw[←hid]at hN;have HN:=qd hN;have oz:=qd hid;clear he h hi hbd hN hid htp;unfold bM
 have hlt:¬(st.len:Int)<(C.M:Int):=by omega
 go_in;go_wp2_with fail;refine ng.out.mono ?_;rintro y w1 ⟨rfl,h1⟩;have HC:=qd h1;clear h1 ng;have pJ:=qd (xH HC.out (e.hash) id h64 oz.out.symm (bN HN.out));unfold bM aP at pJ;go_wp2_with fail;refine pJ.out.mono ?_;rintro y w2 ⟨rfl,hb⟩;replace HC:=qd (HC.out.below hb);clear hb pJ;obtain⟨c0,c1,c11,c12,c13,c14,c15⟩:=HC.out.cells;go_upto_region 3 with fail;go_region;clear c0 c1 c11 c12 c13 c14 c15;replace HC:=qd (HC.out.below (Below.refl w2.heap.size w2).drew);go_wp2_with fail;refine(lu (some ⟨C.mb,3,none⟩) (World.drew w2)).mono ?_;rintro y w3 ⟨rfl,hb⟩;replace HC:=qd (HC.out.below hb);clear hb;obtain⟨Fi,n1,n2,n3,n4,n5,n6⟩:=HC.out.node HN.out;have hNe:e0∈N.ents:=El HI.out.dir qj.out.1 qj.out.2.2.2 (key:=e.key) (by rw[←Ol.out];exact oz.out.symm) HN.out he0 hk;have jT:=qd (DZ e false n1 n2 Ol.out h64 dU.out.v64 HC.out.aB.met HC.out.aB.env HC.out.aB.uw n3 e0 hNe hk);have HX:=qd n6;have oq:=qd (fun(N1:Nd) (hw:Wr H [e0] [{e0 with val:=e.val}] N N1)=>Pj HI.out HN.out hw);clear n1 n2 n3 n4 n5 n6 hNe hk he0 hlt;unfold aP aR at jT;go_wp2_with fail;refine jT.out.mono ?_;rintro y w4 ⟨rfl,x4,N1,q1,q2,q3,q4,q5⟩;obtain⟨F4,LC⟩:=HX.out w4 Fi _ N1 x4 q1 q2.ok (fun q hq=> .inl hq) q3 q5 (fun q hq=>List.mem_cons.1 hq);have kF:=qd LC;have qK:=qd q4;have vQ:=qd q2;clear LC q1 q2 q3 q4 q5 jT HX HC;obtain⟨ln,hln⟩:∃ln,ln=st.len:=⟨_,rfl⟩;have iC:=qd hln;go_upto_region 10 with fail;obtain⟨w6,o8⟩:∃w6,w6=w4:=⟨_,rfl⟩;rw[←o8]
 have Ei:aD W0 E H C w0 G0 w6 F4 {st with a:={st.a with Ns:=st.a.Ns.set id N1},x:=x4,len:=ln}:=by rw[o8,hln];exact kF.out
 clear kF o8 hln;have qI:=qd Ei;have tQ:=qd (wC qI.out.again id N1 (by show(st.a.Ns.set id N1)[id]?=some N1;rw[nE (bN HN.out),if_pos rfl]) (oq.out N1 vQ.out));clear Ei oq;unfold bM aP at tQ;go_wp2_with fail;refine tQ.out.mono ?_;rintro y w7 ⟨rfl,hmt⟩;obtain⟨hmt,_⟩:=hmt.chain qI.out;have ow:=qd hmt;clear hmt tQ qI;go_wp2;refine bodyPost_ret (v:= .nilIface) (by simp[results,Tryz.results45,go_sem]) rfl ⟨rfl,id, ?_⟩;rw[←iC.out];exact⟨N,N1,x4,HN.out,vQ.out,qK.out,ow.out⟩
theorem JY (h:aD W0 E H C w0 G0 w F st)(hi:lg st.a st.ids [])(e:av)(he:nS H e)(e0:av)(he0:e0∈st.a.ents)(hk:e0.key=e.key):Calls Tryz.prog 45 #[bM C.mb,.int .u64 (e.key:Int),.int .u64 (e.val:Int),.int .u64 (e.hash:Int)] w fun y w'=>y= .returned (.nilIface)∧∃id,Em W0 E H C w0 G0 st id [e0] [{e0 with val:=e.val}] st.len w':=by
 by_cases hle:st.len<C.M
 ·exact GR h hi e he e0 he0 hk hle
 ·exact GU h hi e he e0 he0 hk hle
theorem MQ (h:aD W0 E H C w0 G0 w F st)(hi:lg st.a st.ids [])(e:av)(he:nS H e)(hk:∀y∈st.a.ents,y.key≠e.key)(hle:¬st.len<C.M):Calls Tryz.prog 45 #[bM C.mb,.int .u64 (e.key:Int),.int .u64 (e.val:Int),.int .u64 (e.hash:Int)] w fun y w'=>y= .returned (mW E 2)∧∃x',aD W0 E H C w0 G0 w' F {st with x:=x'}∧d9 ⟨st.x.all,⟨0,0,0⟩⟩ x' 128 0:=by
 have h64:=he.h64;have dU:=qd he;have ng:=qd (qg h);have hbd:=h.bounds;have qj:=qd hbd;have HI:=qd hi;obtain⟨N,hN,htp⟩:=hi.dir.at_ h64 hbd.1;have DR:=qd htp;obtain⟨id,hid⟩:∃id,id=st.a.l.getD (eF (e.hash) st.a.d) 0:=⟨_,rfl⟩;rw[←hid]at hN;have HN:=qd hN;have oz:=qd hid;clear he h hi hbd hN hid htp;unfold bM
 have hlt:¬(st.len:Int)<(C.M:Int):=by omega
 go_in;go_wp2_with fail;refine ng.out.mono ?_;rintro y w1 ⟨rfl,h1⟩;have HC:=qd h1;clear h1 ng;have pJ:=qd (xH HC.out (e.hash) id h64 oz.out.symm (bN HN.out));unfold bM aP at pJ;go_wp2_with fail;refine pJ.out.mono ?_;rintro y w2 ⟨rfl,hb⟩;replace HC:=qd (HC.out.below hb);clear hb pJ;obtain⟨c0,c1,c11,c12,c13,c14,c15⟩:=HC.out.cells;go_upto_region 3 with fail;go_region;clear c0 c1 c11 c12 c13 c14 c15;replace HC:=qd (HC.out.below (Below.refl w2.heap.size w2).drew);go_wp2_with fail;refine(lu (some ⟨C.mb,3,none⟩) (World.drew w2)).mono ?_;rintro y w3 ⟨rfl,hb⟩;replace HC:=qd (HC.out.below hb);clear hb;obtain⟨Fi,n1,n2,n3,n4,n5,n6⟩:=HC.out.node HN.out;have hNe:∀y∈N.ents,y.key≠e.key:=fun y hy=>hk y (mI.2 ⟨id,N,HN.out,hy⟩);have Af:=QD e n1 n2 dU.out.hash h64 HC.out.aB.met HC.out.aB.env HC.out.aB.uw n3 hNe;rw[nP E (by omega)]at Af;have jT:=qd Af;clear Af n1 n2 n3 n4 n5 n6 hNe hk;unfold aP aR at jT;go_wp2_with fail;refine jT.out.mono ?_;rintro y w4 ⟨rfl,x4,q3,q4,q5⟩;have kF:=qd (HC.out.met q3 q5);have qK:=qd q4;clear q3 q4 q5 jT HC;have ce:w4.cell? ⟨5,0,none⟩=some (.iface 325 (.pointer (some (E 2)))):=kF.out.aB.env.errs.at_ 2 (by omega) (by omega);have Ny:=qd (abe (E 2) w4);go_wp2_with fail;refine Ny.out.mono ?_;rintro y w5 ⟨rfl,rfl⟩;go_wp2_with fail;refine(DC w4).mono ?_;rintro y w5 ⟨rfl,rfl⟩;go_wp2
 refine bodyPost_ret (v:= .iface 325 (.pointer (some (E 2)))) (by simp[results,Tryz.results45,go_sem]) rfl ⟨?_,x4,kF.out,qK.out⟩;rw[nP E (by omega)]
end
def nd0:Nd:=⟨0,0,0,0,dZ 1 1,.idle⟩
def nX:Pool:=⟨[nd0],0,[0],none⟩
theorem ac1 (H:Nat→Nat):eP H nd0:=by
 obtain⟨h1,h2,h3⟩:=JL (n:=1) (.inl rfl)
 have hE:nd0.ents=[]:=by unfold Nd.ents nd0;rw[h2];rfl
 refine⟨h1,Nat.zero_le _,.inl rfl,by decide,Nat.zero_le _,by rw[hE];exact List.nodup_nil,fun e he=>(by rw[hE]at he;cases he),by rw[hE];exact Nat.zero_le _,rfl, ?_⟩;show load (dZ 1 1)≤_;rw[h3];exact Nat.zero_le _
theorem adW:nX.ents=[]:=by
 obtain⟨h1,h2,h3⟩:=JL (n:=1) (.inl rfl)
 have hE:nd0.ents=[]:=by unfold Nd.ents nd0;rw[h2];rfl
 unfold Pool.ents nX;simp[hE]
theorem inv0:lg nX [] []:=by
 have hget:∀(i:Nat) (N:Nd),nX.Ns[i]?=some N→i=0∧N=nd0:=fun i N hN=>by
  have h1:i<1:=bN hN
  obtain rfl:i=0:=by omega
  exact⟨rfl,(Option.some.inj hN).symm⟩
 refine⟨⟨fun i N hN=> ?_,fun j hj=> ?_,fun i N j hN hj hp=> ?_,rfl,fun i N hN hb=> ?_,fun c hc=>by cases hc⟩,fun id=> ?_,List.nodup_nil,List.nodup_nil,fun i hi=>(by cases hi),fun i hi=>(by cases hi),fun i hi=>(by cases hi),fun i N hN _=> ?_⟩
 ·obtain⟨_,rfl⟩:=hget i N hN;exact⟨Nat.le_refl _,by decide⟩
 ·have h1:j<1:=hj
  obtain rfl:j=0:=by omega
  exact⟨nd0,rfl,rfl⟩
 ·obtain⟨rfl,rfl⟩:=hget i N hN;have h1:j<1:=hj
  obtain rfl:j=0:=by omega
  rfl
 ·obtain⟨_,rfl⟩:=hget i N hN;cases hb
 ·constructor
  ·rintro(⟨N,h1,h2⟩|⟨_,_,c,h3⟩)
   ·obtain⟨_,rfl⟩:=hget id N h1;cases h2
   ·cases h3
  ·rintro(h|h)<;>cases h
 ·obtain⟨_,rfl⟩:=hget i N hN;rfl
def pK (K M I db sb vb:Nat):Array Value:= #[.int .i64 (K:Int),.int .i64 (M:Int),.int .i64 (I:Int),.int .i64 0,.int .i64 0,.int .i64 0,.int .i64 0,.int .i64 0,.int .i64 0,.bool false,.int .i64 0,.slice (some ⟨vb,0,none⟩) 1 1,.pointer (some ⟨db,0,none⟩),.pointer none,.pointer (some ⟨sb,0,none⟩),.int .i64 0]
def st0:nC:=⟨nX,[],0,0,zK⟩
def yE (nb db eb:Nat):dF:=⟨fun _=>nb,db,eb,0,0,0⟩
theorem aD.fresh {W0:World}{E:Nat→Addr}(H:Nat→Nat){w w5:World}{nb tb gb db eb sb qb rb jb vb K M I:Nat}(hE:Env W0 E w)(hK:1≤K∧K≤64)(hM:1≤M∧M≤192)(hb:Below w.heap.size w w5)(hN:bS w5 nb [nb,tb,gb] nd0)(hD:dD w5 db eb 0 [0])(hS:eH w5 sb qb rb jb (K:Int) 0 (yE nb db eb).val [])
  (hR:w5.ownsRow W0.heap.size 132 1 (.slice (some ⟨vb,0,none⟩) 1 1) 1 [.pointer (some ⟨nb,0,none⟩)]) (hlow:∀q∈[nb,tb,gb,db,eb,sb,qb,rb,jb,vb],w.heap.size≤q) (hap:∀q∈[nb,tb,gb],q∉[db,eb,sb,qb,rb,jb,vb]) (ac2:∀q∈[db,eb],q∉[sb,qb,rb,jb,vb]) (aeJ:∀q∈[sb,qb,rb,jb],q≠vb):
  ∃F,aD W0 E H ⟨w5.heap.size,sb,qb,rb,jb,yE nb db eb,.slice (some ⟨vb,0,none⟩) 1 1,K,M,I,0⟩ w [] (w5.alloc (.cells (pK K M I db sb vb) 144)) F st0:=by
 have hb6:Below w5.heap.size w5 (w5.alloc (.cells (pK K M I db sb vb) 144)):=(Below.refl _ _).alloc (Nat.le_refl _) _;have mY:=Mod.of_below hb6 [];have hz:=hb.size;have hzW:=hE.size;have hvl:=(hR.lt vb rfl).2;have hNl:=hN.fH;have hSl:=hS.lt
 have adX:∀(i:Nat) (N:Nd),[nd0][i]?=some N→i=0∧N=nd0:=fun i N hh=>by
  have h1:i<1:=bN hh
  obtain rfl:i=0:=by omega
  exact⟨rfl,(Option.some.inj hh).symm⟩
 have hfp:∀q,q∈iD (yE nb db eb) (fun _=> [nb,tb,gb]) nX↔q∈[nb,tb,gb,db,eb]:=fun q=>by
  rw[aN];constructor
  ·rintro(⟨i,_,hq⟩|hq)
   ·simp at hq⊢;omega
   ·unfold dF.eT yE nX at hq;simp at hq⊢;omega
  ·intro hq;by_cases h1:q∈[nb,tb,gb]
   ·exact .inl ⟨0,by decide,h1⟩
   ·refine .inr ?_;unfold dF.eT yE nX;simp at hq h1⊢;omega
 have adY:jk W0 w5.heap.size H (yE nb db eb) (w5.alloc (.cells (pK K M I db sb vb) 144)) (fun _=> [nb,tb,gb]) nX:=by
  refine⟨fun i N hi=> ?_,hD.mod mY (by simp) (by simp),fun next lf hc=>(by cases hc),fun i j hi hj hij=> ?_,fun i hi q hq hq2=> ?_,fun q hq=> ?_,fun hq=> ?_,by decide⟩
  ·obtain⟨_,rfl⟩:=adX i N hi;exact⟨hN.mod mY (by simp),ac1 H⟩
  ·have h1:i<1:=hi;have h2:j<1:=hj;omega
  ·unfold dF.eT yE nX at hq2;exact hap q hq (by simp at hq2⊢;omega)
  ·have h1:=(hfp q).1 hq;have:=hlow q (by simp at h1⊢;omega);omega
  ·have h1:=(hfp _).1 hq;simp at h1;have h2:=hD.lt;have h3:=hD.Lb;have h4:=hNl nb (by simp);have h5:=hNl tb (by simp);have h6:=hNl gb (by simp);omega
 have hmet:aQ (w5.alloc (.cells (pK K M I db sb vb) 144)) (cmp ⟨w5.heap.size,sb,qb,rb,jb,yE nb db eb,.slice (some ⟨vb,0,none⟩) 1 1,K,M,I,0⟩ st0) zK:=⟨rfl,aj.new w5 144 (pK K M I db sb vb)⟩;have hsb:∀q∈[sb,qb,rb,jb],q<w5.heap.size:=hSl;refine⟨iD (yE nb db eb) (fun _=> [nb,tb,gb]) nX,bD.start (hS.mod mY (by simp)) ⟨_,rfl,adY⟩ hmet (hE.mod ((Mod.of_below hb []).then mY) (by simp)) (fun q hq=>⟨fun hqF=> ?_, ?_, ?_⟩) (by show W0.heap.size≤w5.heap.size;omega),hR.alloc _,fun g hg hq=> ?_,by decide,hK,hM,hzW,fun q hq=> ?_,(Mod.of_below hb []).then mY⟩
 ·have hq':q∈[sb,qb,rb,jb]:=hq;have h1:=(hfp q).1 hqF;by_cases h2:q∈[nb,tb,gb]
  ·exact hap q h2 (by simp at hq'⊢;omega)
  ·exact ac2 q (by simp at h1 h2⊢;omega) (by simp at hq'⊢;omega)
 ·have:=hsb q hq;show q≠w5.heap.size;omega
 ·have hq':q∈[sb,qb,rb,jb]:=hq;have:=hlow q (by simp at hq'⊢;omega);omega
 ·have hg':g=vb:=by simpa using(Option.some.inj hg).symm
  subst hg'
  have hq':g=w5.heap.size∨g∈[sb,qb,rb,jb]∨g∈iD (yE nb db eb) (fun _=> [nb,tb,gb]) nX:=by
   rcases List.mem_cons.1 hq with h3|h3
   ·exact .inl h3
   ·exact .inr (List.mem_append.1 h3)
  rcases hq' with h1|h1|h1
  ·omega
  ·exact aeJ g h1 rfl
  ·have h2:=(hfp g).1 h1;by_cases h3:g∈[nb,tb,gb]
   ·exact hap g h3 (by simp)
   ·exact ac2 g (by simp at h2 h3⊢;omega) (by simp)
 ·right;rcases bg.1 hq with h1|h1|h1|h1
  ·have h2:q=w5.heap.size:=h1;omega
  ·have h2:q∈[sb,qb,rb,jb]:=h1;exact hlow q (by simp at h2⊢;omega)
  ·have h2:=(hfp q).1 h1;exact hlow q (by simp at h2⊢;omega)
  ·have h2:q=vb:=by simpa using(Option.some.inj h1).symm
   exact hlow q (by simp[h2])
def aeK (Ns:List Nd)(i:Nat):Nat:=((Ns.take i).map Nd.groups).sum
section
variable {W0 w : World} {E : Nat → Addr}
def NewAt (W0:World)(E:Nat→Addr)(H:Nat→Nat)(K M:Nat)(w:World)(mb:Nat)(w':World):Prop:=∃(C:jf) (F:List Nat),C.mb=mb∧C.K=K∧C.M=M∧aD W0 E H C w [] w' F st0
theorem ZQ (H:Nat→Nat)(hE:Env W0 E w)(k m i:Int)(hcf:zm k m i=true)(K M I:Nat)(hkm:(1≤K∧K≤64)∧(1≤M∧M≤192)∧k=(K:Int)∧m=(M:Int)∧i=(I:Int)):Calls Tryz.prog 41 #[kJ k m i] w fun e w'=>∃mb,e= .returned (.tuple #[bM mb,.nilIface])∧NewAt W0 E H K M w mb w':=by
 have I9:=qd hkm;clear hkm;have HEr:=qd hE;have hB0:=aj.new w 41 #[.int .i64 k,.int .i64 m,.int .i64 i];have hb0:=(Below.refl w.heap.size w).alloc (Nat.le_refl _) (.cells #[.int .i64 k,.int .i64 m,.int .i64 i] 41);unfold kJ;go_in;go_upto_region 1 with fail;refine bU (F:=fun v=>aj v w.heap.size 41 #[.int .i64 k,.int .i64 m,.int .i64 i]∧Below w.heap.size w v) ⟨hB0,hb0⟩ ?_;clear hB0 hb0;rintro w1 ⟨hB1,hb1⟩;obtain⟨bx,hbx⟩:∃bx,bx=w.heap.size:=⟨_,rfl⟩;rw[←hbx]at hB1⊢;have jH:=qd hbx;have HB:=qd hB1;have Am:=qd (hE.mod (Mod.of_below hb1 []) (by simp));have DI:=qd hb1;obtain⟨k0,k1,k2⟩:=hB1.c3;have W9:=qd (IU k m i w1 Am.out.errs);rw[hcf]at W9;simp only[if_true]at W9;unfold kJ at W9;have hz1:=hb1.size;have agC:=HB.out.lt;clear hB1 hb1 hE hbx;go_wp2_with fail;refine W9.out.mono ?_;rintro y w2 ⟨rfl,hb2⟩;replace HB:=qB hb2 HB;replace DI:=qd (yw DI.out hb2);replace Am:=qB hb2 Am;have hz2:=hb2.size;clear hb2 W9 k0 k1 k2;go_wp2_with fail;refine(Zi w2).mono ?_;rintro y w3 ⟨nb,tb,gb,rfl,hn1,hn2,⟨l1,l2,l3,l4,l5⟩,hb3⟩;have HN:=qd (show bS w3 nb [nb,tb,gb] nd0 from⟨tb,gb,hn1,hn2,rfl,l4,l5⟩);replace HB:=qB hb3 HB;replace DI:=qd (yw DI.out hb3);replace Am:=qB hb3 Am;have hz3:=hb3.size;have l6:=hn2.ne;have hnl:=HN.out.fH;have agD:=hnl nb (by simp);have agE:=hnl tb (by simp);have agF:=hnl gb (by simp);clear hb3 hn1 hn2 hnl;unfold aP;have HDn:=qd (show Calls Tryz.prog 68 #[.int .i64 0] w3 _ from RB 0 (by omega) w3);unfold iW at HDn
 go_wp2_with fail;refine HDn.out.mono ?_;rintro y w4 ⟨rfl,hd4,hb4⟩;have HD:=qd (show dD w4 (w3.heap.size+1) w3.heap.size 0 [0]from hd4);replace HN:=qd (HN.out.mod (Mod.of_below hb4 []) (by simp));replace HB:=qB hb4 HB;replace DI:=qd (yw DI.out hb4);replace Am:=qB hb4 Am;have hz4:=hb4.size;have aeL:=HD.out.lt;have aeM:=HD.out.Lb;obtain⟨db,hdb⟩:∃db,db=w3.heap.size+1:=⟨_,rfl⟩;obtain⟨eb,KV⟩:∃eb,eb=w3.heap.size:=⟨_,rfl⟩;rw[←hdb,←KV]at HD;rw[←hdb];rw[←hdb]at aeL;rw[←KV]at aeM;have uo:=qd hdb;have rW:=qd KV;clear hb4 hd4 HDn hdb KV;have kk:=HB.out.c3;have eG:=qd (Ww k (by have:=I9.out;omega) (yE nb db eb).val w4 Am.out.errs);unfold fD at eG;go_wp2_with fail;refine eG.out.mono ?_;rintro y w5 ⟨sb,qb,rb,jb,rfl,hs5,hsl,hb5⟩;have HS:=qd hs5;replace HN:=qd (HN.out.mod (Mod.of_below hb5 []) (by simp));replace HD:=qB hb5 HD;replace HB:=qB hb5 HB;replace DI:=qd (yw DI.out hb5);replace Am:=qB hb5 Am;have hz5:=hb5.size;have HSl:=qd hsl;clear kk hb5 hs5 eG hsl;have kk:=HB.out.c3;go_wp2;have hrow:=World.ownsRow_lit (base:=W0.heap.size) (e:=132) (size:=1) w5 #[.pointer (some ⟨nb,0,none⟩)] 1 (by have:=Am.out.size;omega) (by decide) rfl;have hb6:Below w5.heap.size w5 (w5.alloc (.cells #[.pointer (some ⟨nb,0,none⟩)] 132)):=(Below.refl _ _).alloc (Nat.le_refl _) _;have mY:=Mod.of_below hb6 [];have hsl:=HSl.out;have hd1:=uo.out;have hd2:=rW.out;have s1:=hsl sb (by simp);have s2:=hsl qb (by simp);have s3:=hsl rb (by simp);have s4:=hsl jb (by simp);have hslt:=HS.out.lt
 have t1:=hslt sb (by simp);have t2:=hslt qb (by simp);have t3:=hslt rb (by simp);have t4:=hslt jb (by simp);have agG:=jH.out
 obtain⟨F,hF⟩:=aD.fresh H (w:=w) (w5:=w5.alloc (.cells #[.pointer (some ⟨nb,0,none⟩)] 132)) (nb:=nb) (tb:=tb) (gb:=gb) (db:=db) (eb:=eb) (sb:=sb) (qb:=qb) (rb:=rb) (jb:=jb) (vb:=w5.heap.size) (K:=K) (M:=M) (I:=I) HEr.out I9.out.1 I9.out.2.1 (yw DI.out hb6) (HN.out.mod mY (by simp)) (HD.out.mod mY (by simp) (by simp)) (I9.out.2.2.1▸HS.out.mod mY (by simp)) hrow
  (by intro q hq;simp at hq;omega) (by intro q hq;simp at hq⊢;omega) (by intro q hq;simp at hq⊢;omega) (by intro q hq;simp at hq;omega)
 have hkk:=I9.out.2.2
 have hq:pK K M I db sb w5.heap.size= #[.int .i64 k,.int .i64 m,.int .i64 i,.int .i64 0,.int .i64 0,.int .i64 0,.int .i64 0,.int .i64 0,.int .i64 0,.bool false,.int .i64 0,.slice (some ⟨w5.heap.size,0,none⟩) 1 1,.pointer (some ⟨db,0,none⟩),.pointer none,.pointer (some ⟨sb,0,none⟩),.int .i64 0]:=by
  unfold pK;rw[hkk.1,hkk.2.1,hkk.2.2]
 rw[hq]at hF;refine bodyPost_ret (v:= .tuple #[.pointer (some ⟨w5.heap.size+1,0,none⟩),.nilIface]) (by simp[results,Tryz.results41,go_sem]) rfl ⟨w5.heap.size+1,rfl,⟨_,F, ?_,rfl,rfl,hF⟩⟩;simp
end
section
variable {α : Type} {id : Nat} {W0 w : World} {E : Nat → Addr}
def agH {α:Type}(left:α→Nat→Nat)(a:α)(ids:List Nat):Nat:=(ids.map (left a)).sum
def Pm (l:Lit→Bool)(rem:List Nat):Prop:=∀x:Int,(Lit.int .i64 x).wf=true→(l (.int .i64 x)=true↔∃id∈rem,x=(id:Int))
theorem Pm.next {l:Lit→Bool}{rem:List Nat}(h:Pm l rem)(hn:rem.Nodup):Pm (fun z=>l z && !z.sameKey (.int .i64 (id:Int))) (rem.erase id):=fun x hx=>by
 have hk:(Lit.int .i64 x).sameKey (.int .i64 (id:Int))=decide (x=(id:Int)):=by simp[Lit.sameKey]
 show(l (.int .i64 x) && !(Lit.int .i64 x).sameKey (.int .i64 (id:Int)))=true↔_;rw[hk,Bool.and_eq_true,h x hx];constructor
 ·rintro⟨⟨j,hj,rfl⟩,h2⟩
  have h3:¬(j:Int)=(id:Int):=by simpa using h2
  exact⟨j,(List.mem_erase_of_ne (fun e=>h3 (by rw[e]))).2 hj,rfl⟩
 ·rintro⟨j,hj,rfl⟩;rw[hn.mem_erase_iff]at hj;have h3:¬(j:Int)=(id:Int):=fun e=>hj.1 (by omega);exact⟨⟨j,hj.2,rfl⟩,by simpa using h3⟩
end
section
variable {g gl id k len' lo mx : Nat} {N N1 : Nd} {add del : List av} {C : jf} {F aO : List Nat} {a' : Pool} {t : Int}
def je (W0:World)(E:Nat→Addr)(H:Nat→Nat)(K M mb:Nat)(G:List Nat)(w:World)(a:Pool)(ids:List Nat):Prop:=
 ∃(C:jf) (F:List Nat) (len:Nat) (b:Int) (x:bP),C.mb=mb∧C.K=K∧C.M=M∧G=C.foot F∧aD W0 E H C w (C.foot F) w F ⟨a,ids,len,b,x⟩∧lg a ids []∧len=a.ents.length∧len≤M
def lY (W0:World)(E:Nat→Addr)(H:Nat→Nat)(K M mb:Nat)(G:List Nat)(w w':World)(a':Pool)(aO:List Nat):Prop:=
 ∃G',je W0 E H K M mb G' w' a' aO∧(∀q∈G',q∈G∨w.heap.size≤q)∧Mod G w w'
def WrS (H:Nat→Nat)(K:Nat)(a:Pool)(ids:List Nat)(del add:List av)(a':Pool)(aO:List Nat):Prop:=
 ∃(id:Nat) (N N1:Nd),a.Ns[id]?=some N∧Wr H del add N N1∧aaD H K {a with Ns:=a.Ns.set id N1} ids id a' aO∧uq del add a.ents a'.ents∧a'.ents.Perm ((a.Ns.set id N1).flatMap Nd.ents)
theorem ac3 {H:Nat→Nat}{a:Pool}(hN:a.Ns[id]?=some N)(hw:Wr H del add N N1):uq del add a.ents ((a.Ns.set id N1).flatMap Nd.ents):=by
 obtain⟨B,B',b1,b2⟩:=sH (N':=N1) hN;unfold Pool.ents;rw[b1,b2];exact hw.IL.wrap B B'
section
variable {W0 : World} {E : Nat → Addr} {H : Nat → Nat} {K M mb : Nat} {G : List Nat} {w w' : World} {a : Pool} {ids : List Nat}
theorem lY.of {A':dF}{v':Value}{F':List Nat}{b':Int}{x':bP}(h1:C.mb=mb)(h2:C.K=K)(h3:C.M=M)(hc:aD W0 E H {C with A:=A',v:=v'} w (C.foot F) w' F' ⟨a',aO,len',b',x'⟩)(hi:lg a' aO [])(hl:len'=a'.ents.length)(hm:len'≤M):lY W0 E H K M mb (C.foot F) w w' a' aO:=
 ⟨({C with A:=A',v:=v'}:jf).foot F',⟨{C with A:=A',v:=v'},F',len',b',x',h1,h2,h3,rfl,hc.again,hi,hl,hm⟩,hc.sub,hc.mod⟩
theorem LD {len:Nat}{b:Int}{x:bP}(h1:C.mb=mb)(h2:C.K=K)(h3:C.M=M)(hl:len=a.ents.length)(hl':len'+del.length=len+add.length)(hm:len'≤M)(h:Em W0 E H C w (C.foot F) ⟨a,ids,len,b,x⟩ id del add len' w'):
  ∃a' aO,WrS H K a ids del add a' aO∧lY W0 E H K M mb (C.foot F) w w' a' aO:=by
 obtain⟨N,N1,x1,hN,hw,_,A',v',F',a',aO,b',x',u,k1,k2,k3,k4,_⟩:=h;have hch:=ac3 hN hw;have ac4:uq del add a.ents a'.ents:=hch.perm (.refl _) k3;have hlen:=ac4.len;exact⟨a',aO,⟨id,N,N1,hN,hw,h2▸k1,ac4,k3⟩,lY.of h1 h2 h3 k4 k2 (by show len'=_;omega) hm⟩
theorem ac5 (h:je W0 E H K M mb G w a ids)(e:av)(he:nS H e):Calls Tryz.prog 45 #[bM mb,.int .u64 (e.key:Int),.int .u64 (e.val:Int),.int .u64 (e.hash:Int)] w fun y w'=>
  (look a.ents e.key=none∧M≤a.ents.length∧y= .returned (mW E 2)∧lY W0 E H K M mb G w w' a ids)∨
  (∃a' aO,look a.ents e.key=none∧a.ents.length<M∧y= .returned .nilIface∧WrS H K a ids [] [e] a' aO∧lY W0 E H K M mb G w w' a' aO)∨
  (∃a' aO e0,look a.ents e.key=some e0∧y= .returned .nilIface∧WrS H K a ids [e0] [{e0 with val:=e.val}] a' aO∧lY W0 E H K M mb G w w' a' aO):=by
 obtain⟨C,F,len,b,x,h1,h2,h3,rfl,hC,hi,hl,hm⟩:=h;rw[←h1]
 cases hlk:look a.ents e.key with
 |some e0=>
  obtain⟨m1,m2⟩:=rz hlk;refine(JY hC hi e he e0 m1 m2).mono ?_;rintro y w' ⟨rfl,id,hp⟩;obtain⟨a',aO,k1,k2⟩:=LD h1 h2 h3 hl (by simp) hm hp;exact .inr (.inr ⟨a',aO,e0,rfl,rfl,k1,h1▸k2⟩)
 |none=>
  have hno:∀y∈a.ents,y.key≠e.key:=fun y hy hk=>by
   unfold look at hlk;rw[List.find?_eq_none]at hlk;exact hlk y hy (by simpa using hk)
  by_cases hlt:len<C.M
  ·refine(Pk hC hi e he hno hlt hl).mono ?_;rintro y w' ⟨rfl,id,hp⟩;obtain⟨a',aO,k1,k2⟩:=LD h1 h2 h3 hl (by simp) (by show len+1≤M;omega) hp;exact .inr (.inl ⟨a',aO,rfl,by omega,rfl,k1,h1▸k2⟩)
  ·refine(MQ hC hi e he hno hlt).mono ?_;rintro y w' ⟨rfl,x',hc,_⟩;exact .inl ⟨rfl,by omega,rfl,h1▸lY.of (A':=C.A) (v':=C.v) h1 h2 h3 hc hi hl hm⟩
theorem ac6 (h:je W0 E H K M mb G w a ids)(key:Nat)(h64:H key<18446744073709551616):Calls Tryz.prog 116 #[bM mb,.int .u64 (key:Int),.int .u64 (H key:Int)] w fun y w'=>
  y= .returned (.tuple #[.int .u64 (((look a.ents key).getD ⟨0,0,0⟩).val:Int),.bool (look a.ents key).isSome])∧lY W0 E H K M mb G w w' a ids:=by
 obtain⟨C,F,len,b,x,h1,h2,h3,rfl,hC,hi,hl,hm⟩:=h;rw[←h1];refine(ZP hC hi key h64).mono ?_;rintro y w' ⟨rfl,x',hc,_⟩;exact⟨rfl,h1▸lY.of (A':=C.A) (v':=C.v) h1 h2 h3 hc hi hl hm⟩
theorem ac7 (h:je W0 E H K M mb G w a ids):Calls Tryz.prog 52 #[bM mb] w fun e w'=>e= .returned (.int .i64 (a.ents.length:Int))∧w=w':=by
 obtain⟨C,F,len,b,x,h1,h2,h3,rfl,hC,hi,hl,hm⟩:=h;rw[←h1,←hl];exact ZG hC
theorem je.mod {S:List Nat}(h:je W0 E H K M mb G w a ids)(hm:Mod S w w')(hS:∀q∈S,q∉G∧W0.heap.size≤q):je W0 E H K M mb G w' a ids:=by
 obtain⟨C,F,len,b,x,h1,h2,h3,rfl,hC,hi,hl,hm'⟩:=h
 have hd:∀q∈S,q≠C.mb∧q∉C.s.blocks∧q∉F∧C.v.ownBlock≠some q:=fun q hq=>by
  have:=(hS q hq).1;rw[bg]at this;simp only[not_or]at this;exact this
 refine⟨C,F,len,b,x,h1,h2,h3,rfl,⟨bD.start (hC.aB.aB.mod hm (fun q hq dY=>(hd q dY).2.1 hq)) (hC.hp.zN hC.aB.pool hm (fun q hq dY=>(hd q dY).2.2.1 hq)) (hC.aB.met.mod hm (fun hq=>(hd _ hq).1 rfl)) (hC.aB.env.mod hm (fun q hq=>(hS q hq).2)) hC.aB.apart hC.aB.uw,jX hC.row hm (fun k hk Jc=>(hd k Jc).2.2.2 hk),hC.AU,hC.pos,hC.kk,hC.mm, ?_,fun q hq=> .inl hq,Mod.refl _ _⟩,hi,hl,hm'⟩;have:=hC.aB.env.size;have:=hm.size;omega
theorem je.below (h:je W0 E H K M mb G w a ids)(hb:Below w.heap.size w w'):je W0 E H K M mb G w' a ids:=h.mod (Mod.of_below hb []) (by simp)
theorem je.facts (h:je W0 E H K M mb G w a ids):lg a ids []∧a.d≤5∧a.Ns.length≤32∧1≤a.Ns.length∧a.Ns.length≤2^a.d∧(∀(i:Nat) (N:Nd),a.Ns[i]?=some N→eP H N)∧a.ents.length≤M∧M≤192∧(1≤K∧K≤64)∧(a.ents.map av.key).Nodup∧(∀q∈G,q<w.heap.size∧W0.heap.size≤q)∧Env W0 E w:=by
 obtain⟨C,F,len,b,x,h1,h2,h3,rfl,hC,hi,hl,hm⟩:=h;obtain⟨b1,b2,b3,b4⟩:=hC.bounds;have h4:=hC.mm;have h5:=hC.kk;exact⟨hi,b1,b2,hC.pos,hi.dir.nodes,b4,by omega,by omega,by omega,Jf hi.dir b1 b4,fun q hq=>⟨hC.fH q hq,hC.ZE q hq⟩,hC.aB.env⟩
theorem ac8 {H:Nat→Nat}(h:NewAt W0 E H K M w mb w'):lY W0 E H K M mb [] w w' nX []:=by
 obtain⟨C,F,h1,h2,h3,hC⟩:=h;exact⟨_,⟨C,F,0,0,zK,h1,h2,h3,rfl,hC.again,inv0,by rw[adW];rfl,Nat.zero_le _⟩,hC.sub,hC.mod⟩
end
def GB (mx:Nat)(a:Pool):Prop:=∀(i:Nat) (N:Nd),a.Ns[i]?=some N→N.len≤mx∧N.each≤mx∧N.groups≤2*mx
theorem GB.more {mx':Nat}{a:Pool}(h:GB mx a)(hm:mx≤mx'):GB mx' a:=fun i N hN=>by
 have:=h i N hN;omega
end
section
variable {es l : List av} {e : av} {key : Nat}
def fI (a:Pool):List Nat:=a.Ns.map fun N=>lI N.pfx N.au
theorem vR {h d p:Nat}:eF h d=p↔nO p d≤h∧h≤lI p d:=by
 unfold eF nO lI;have:=pos2 (64-d);rw[vO];omega
theorem QG {f:av}{l':List av}{o:Option av}(h:gM f l o)(h1:∀e∈l',bG e f=false→e∈l)(h2:∀e∈l,e∈l'):gM f l' o:=by
 cases o with
 |none=>
  intro e he
  cases hl:bG e f with
  |true=>rfl
  |false=>exact absurd (h e (h1 e he hl)) (by rw[hl];simp)
 |some m=>exact⟨h2 m h.1,h.2.1,fun e he hl=>h.2.2 e (h1 e he hl) hl⟩
theorem LG {hash:Nat}(h:bG e ⟨key,0,hash⟩=false):hash≤e.hash:=by
 simp[bG]at h;omega
def upto (es:List av)(hi:Nat):List av:=es.filter fun e=>decide (e.hash≤hi)
theorem pO {hi:Nat}:e∈upto es hi↔e∈es∧e.hash≤hi:=by unfold upto;simp
def rest (es:List av)(key:Nat):List av:=es.filter fun x=>x.key !=key
theorem LH (h:look es key=none):rest es key=es:=by
 unfold look at h;rw[List.find?_eq_none]at h
 exact List.filter_eq_self.2 fun x hx=>by simpa using h x hx
theorem Xa (key:Nat)(h:es.Perm l):(rest es key).Perm (rest l key):=h.filter _
theorem LJ {r:List av}(hn:(es.map av.key).Nodup)(h:es.Perm (e::r)):(rest es e.key).Perm r:=by
 have h1:=Xa e.key h;have h2:=(h.map av.key).nodup_iff.1 hn;rw[List.map_cons,List.nodup_cons]at h2
 have h3:rest (e::r) e.key=r:=by
  unfold rest;rw[List.filter_cons,if_neg (by simp)]
  exact List.filter_eq_self.2 fun x hx=>by
   have:x.key≠e.key:=fun hh=>h2.1 (by rw[←hh];exact List.mem_map_of_mem hx);simpa using this
 rw[h3]at h1;exact h1
def tH (M:Nat)(es:List av)(key:Nat):Bool:=(look es key).isNone && decide (M≤es.length)
def uL (M:Nat)(es:List av)(key:Nat):Nat:=if tH M es key then 2 else 0
def JZ (M:Nat)(es:List av)(e:av):List av:=if tH M es e.key then es else rest es e.key++[e]
def Pn (es:List av)(key:Nat):Value:= .tuple #[.int .u64 (((look es key).getD ⟨0,0,0⟩).val:Int),.bool (look es key).isSome]
section
variable {W0 : World} {E : Nat → Addr} {H : Nat → Nat} {K M mb : Nat} {G : List Nat} {w w' : World} {a : Pool} {ids : List Nat}
theorem ac9 (h:je W0 E H K M mb G w a ids)(key:Nat)(h64:H key<18446744073709551616):Calls Tryz.prog 116 #[bM mb,.int .u64 (key:Int),.int .u64 (H key:Int)] w fun y w'=>
  y= .returned (Pn a.ents key)∧lY W0 E H K M mb G w w' a ids:=ac6 h key h64
end
end
end Go.Proofs.YtbfpfgfgfjhpfaaGreatDoor
