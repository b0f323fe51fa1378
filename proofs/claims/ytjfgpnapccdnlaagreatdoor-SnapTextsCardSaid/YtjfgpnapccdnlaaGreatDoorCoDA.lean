/- A core's Put by its contract. -/
import Derived.Test.YtjfgpnapccdnlaaGreatDoorCoCY
import Derived.Test.YtjfgpnapccdnlaaGreatDoorKit2
import Derived.Test.YtjfgpnapccdnlaaGreatDoorBuilder
import Derived.Test.YtjfgpnapccdnlaaGreatDoorCoBQ
namespace Go.Proofs.YtjfgpnapccdnlaaGreatDoor
set_option maxRecDepth 100000
set_option maxHeartbeats 4000000
open Go.RowKit dF Go.Maps
section
variable {W0 w w0 : World} {E : Nat → Addr} {H : Nat → Nat} {C : iO} {F G0 : List Nat} {st : mW}
theorem Qn (h:aF W0 E H C w0 G0 w F st)(hi:lW st.a st.ids [])(e:ay)(he:nu H e)(hk:∀y∈st.a.ents,y.key≠e.key)(hle:st.len<C.M)(hln:st.len=st.a.ents.length):Calls Tryz.prog 30 #[bU C.mb,.int .u64 (e.key:Int),.int .u64 (e.val:Int),.int .u64 (e.hash:Int)] w fun y w'=>y= .returned (.nilIface)∧∃id,Em W0 E H C w0 G0 st id [] [e] (st.len+1) w':=by
 have h64:=he.h64;have dX:=qd he;have sN:=qd hln;have lZ:=qd (tq h);have hbd:=h.bounds;have sI:=qd hbd;have HI:=qd hi;obtain⟨N,hN,htp⟩:=hi.dir.at_ h64 hbd.1;have FU:=qd htp;obtain⟨id,hid⟩:∃id,id=st.a.l.getD (dZ (e.hash) st.a.d) 0:=⟨_,rfl⟩;rw[←hid]at hN;have HN:=qd hN;have p8:=qd hid;clear hln he h hi hbd hN hid htp;unfold bU
 have hlt:(st.len:Int)<(C.M:Int):=by omega
 go_in;go_wp2_with fail;refine lZ.out.mono ?_;rintro y w1 ⟨rfl,h1⟩;have HC:=qd h1;clear h1 lZ;have p9:=qd (AR HC.out (e.hash) id h64 p8.out.symm (bG HN.out));unfold bU aR at p9;go_wp2_with fail;refine p9.out.mono ?_;rintro y w2 ⟨rfl,hb⟩;replace HC:=qd (HC.out.below hb);clear hb p9;obtain⟨c0,c1,c11,c12,c13,c14,c15⟩:=HC.out.cells;go_upto_region 3 with fail;go_region;clear c0 c1 c11 c12 c13 c14 c15;replace HC:=qd (HC.out.below (Below.refl w2.heap.size w2).drew);go_wp2_with fail;refine(nJ (some ⟨C.mb,3,none⟩) (World.drew w2)).mono ?_;rintro y w3 ⟨rfl,hb⟩;replace HC:=qd (HC.out.below hb);clear hb;obtain⟨Fi,n1,n2,n3,n4,n5,n6⟩:=HC.out.node HN.out;have hNe:∀y∈N.ents,y.key≠e.key:=fun y hy=>hk y (o8.2 ⟨id,N,HN.out,hy⟩)
 have Pp:N.ents.length+1≤192:=by
  obtain⟨B,B',b1,_⟩:=rV (N':=N) HN.out
  have h1:st.a.ents.length=(B++(N.ents++B')).length:=by unfold Pool.ents;rw[b1]
  rw[List.length_append,List.length_append]at h1;have h2:=HC.out.mm.2;have h3:=sN.out;omega
 have hsl:=HI.out.sl id N HN.out (by simp);have kG:=qd (UH e n1 n2 dX.out FU.out HC.out.aC.met HC.out.aC.env HC.out.aC.vJ n3 hNe Pp hsl);have HX:=qd n6;have nL:=qd (fun(N1:Nd) (hw:Wr H [] [e] N N1)=>Ql HI.out HN.out hw);clear n1 n2 n3 n4 n5 n6 hNe hk Pp hsl hlt;unfold aR aW at kG;go_wp2_with fail;refine kG.out.mono ?_;rintro y w4 ⟨rfl,x4,N1,q1,q2,q3,q4,q5⟩;obtain⟨F4,Mg⟩:=HX.out w4 Fi _ N1 x4 q1 q2.ok (fun q hq=> .inl hq) q3 q5 (fun q hq=>List.mem_cons.1 hq);have kH:=qd Mg;have sZ:=qd q4;have vO:=qd q2;clear Mg q1 q2 q3 q4 q5 kG HX HC;obtain⟨c0,c1,c11,c12,c13,c14,c15⟩:=kH.out.cells;have f15:=kH.out.frozen 15;obtain⟨ln,hln⟩:∃ln,ln=st.len+1:=⟨_,rfl⟩;have agu:=kH.out.mm.2
 have hwr:IntKind.i64.wrap ((st.len:Int)+1)=(ln:Int):=by rw[IntKind.wrap_i64]<;>omega
 have oO:=qd hln;have iP:=qd (kH.out.adG ln);clear hln;go_upto_region 10 with fail;refine dx (F:=fun v=>aF W0 E H C w0 G0 v F4 {st with a:={st.a with Ns:=st.a.Ns.set id N1},x:=x4,len:=ln}) iP.out ?_;rintro w6 Ej;clear c0 c1 c11 c12 c13 c14 c15 f15 kH iP hwr;have iP:=qd Ej;have tN:=qd (wB iP.out.again id N1 (by show(st.a.Ns.set id N1)[id]?=some N1;rw[mJ (bG HN.out),if_pos rfl]) (nL.out N1 vO.out));clear Ej nL;unfold bU aR at tN;go_wp2_with fail;refine tN.out.mono ?_;rintro y w7 ⟨rfl,hmt⟩;obtain⟨hmt,_⟩:=hmt.chain iP.out;have pY:=qd hmt;clear hmt tN iP;go_wp2;refine bodyPost_ret (v:= .nilIface) (by simp[results,Tryz.results30,go_sem]) rfl ⟨rfl,id, ?_⟩;rw[←oO.out];exact⟨N,N1,x4,HN.out,vO.out,sZ.out,pY.out⟩
theorem G6 (h:aF W0 E H C w0 G0 w F st)(hi:lW st.a st.ids [])(e:ay)(he:nu H e)(e0:ay)(he0:e0∈st.a.ents)(hk:e0.key=e.key)(hle:st.len<C.M):Calls Tryz.prog 30 #[bU C.mb,.int .u64 (e.key:Int),.int .u64 (e.val:Int),.int .u64 (e.hash:Int)] w fun y w'=>y= .returned (.nilIface)∧∃id,Em W0 E H C w0 G0 st id [e0] [{e0 with val:=e.val}] st.len w':=by
 have h64:=he.h64;have dX:=qd he;have Pd:=qd he.hash;have lZ:=qd (tq h);have hbd:=h.bounds;have sI:=qd hbd;have HI:=qd hi;obtain⟨N,hN,htp⟩:=hi.dir.at_ h64 hbd.1;have FU:=qd htp;obtain⟨id,hid⟩:∃id,id=st.a.l.getD (dZ (e.hash) st.a.d) 0:=⟨_,rfl⟩;rw[←hid]at hN;have HN:=qd hN;have p8:=qd hid;clear he h hi hbd hN hid htp;unfold bU
 have hlt:(st.len:Int)<(C.M:Int):=by omega
 go_in;go_wp2_with fail;refine lZ.out.mono ?_;rintro y w1 ⟨rfl,h1⟩;have HC:=qd h1;clear h1 lZ;have p9:=qd (AR HC.out (e.hash) id h64 p8.out.symm (bG HN.out));unfold bU aR at p9;go_wp2_with fail;refine p9.out.mono ?_;rintro y w2 ⟨rfl,hb⟩;replace HC:=qd (HC.out.below hb);clear hb p9;obtain⟨c0,c1,c11,c12,c13,c14,c15⟩:=HC.out.cells;go_upto_region 3 with fail;go_region;clear c0 c1 c11 c12 c13 c14 c15;replace HC:=qd (HC.out.below (Below.refl w2.heap.size w2).drew);go_wp2_with fail;refine(nJ (some ⟨C.mb,3,none⟩) (World.drew w2)).mono ?_;rintro y w3 ⟨rfl,hb⟩;replace HC:=qd (HC.out.below hb);clear hb;obtain⟨Fi,n1,n2,n3,n4,n5,n6⟩:=HC.out.node HN.out;have hNe:e0∈N.ents:=Mf HI.out.dir sI.out.1 sI.out.2.2.2 (key:=e.key) (by rw[←Pd.out];exact p8.out.symm) HN.out he0 hk;have kG:=qd (D5 e true n1 n2 Pd.out h64 dX.out.v64 HC.out.aC.met HC.out.aC.env HC.out.aC.vJ n3 e0 hNe hk);have HX:=qd n6;have nL:=qd (fun(N1:Nd) (hw:Wr H [e0] [{e0 with val:=e.val}] N N1)=>Ql HI.out HN.out hw);clear n1 n2 n3 n4 n5 n6 hNe hk he0 hlt;unfold aR aW at kG;go_wp2_with fail;refine kG.out.mono ?_;rintro y w4 ⟨rfl,x4,N1,q1,q2,q3,q4,q5⟩;obtain⟨F4,Mg⟩:=HX.out w4 Fi _ N1 x4 q1 q2.ok (fun q hq=> .inl hq) q3 q5 (fun q hq=>List.mem_cons.1 hq);have kH:=qd Mg;have sZ:=qd q4;have vO:=qd q2;clear Mg q1 q2 q3 q4 q5 kG HX HC;obtain⟨ln,hln⟩:∃ln,ln=st.len:=⟨_,rfl⟩;have oO:=qd hln;go_upto_region 10 with fail;obtain⟨w6,oN⟩:∃w6,w6=w4:=⟨_,rfl⟩;rw[←oN]
 have Ej:aF W0 E H C w0 G0 w6 F4 {st with a:={st.a with Ns:=st.a.Ns.set id N1},x:=x4,len:=ln}:=by rw[oN,hln];exact kH.out
 clear kH oN hln;have iP:=qd Ej;have tN:=qd (wB iP.out.again id N1 (by show(st.a.Ns.set id N1)[id]?=some N1;rw[mJ (bG HN.out),if_pos rfl]) (nL.out N1 vO.out));clear Ej nL;unfold bU aR at tN;go_wp2_with fail;refine tN.out.mono ?_;rintro y w7 ⟨rfl,hmt⟩;obtain⟨hmt,_⟩:=hmt.chain iP.out;have pY:=qd hmt;clear hmt tN iP;go_wp2;refine bodyPost_ret (v:= .nilIface) (by simp[results,Tryz.results30,go_sem]) rfl ⟨rfl,id, ?_⟩;rw[←oO.out];exact⟨N,N1,x4,HN.out,vO.out,sZ.out,pY.out⟩
theorem G7 (h:aF W0 E H C w0 G0 w F st)(hi:lW st.a st.ids [])(e:ay)(he:nu H e)(e0:ay)(he0:e0∈st.a.ents)(hk:e0.key=e.key)(hle:¬st.len<C.M):Calls Tryz.prog 30 #[bU C.mb,.int .u64 (e.key:Int),.int .u64 (e.val:Int),.int .u64 (e.hash:Int)] w fun y w'=>y= .returned (.nilIface)∧∃id,Em W0 E H C w0 G0 st id [e0] [{e0 with val:=e.val}] st.len w':=by
 have h64:=he.h64;have dX:=qd he;have Pd:=qd he.hash;have lZ:=qd (tq h);have hbd:=h.bounds;have sI:=qd hbd;have HI:=qd hi;obtain⟨N,hN,htp⟩:=hi.dir.at_ h64 hbd.1;have FU:=qd htp;obtain⟨id,hid⟩:∃id,id=st.a.l.getD (dZ (e.hash) st.a.d) 0:=⟨_,rfl⟩;rw[←hid]at hN;have HN:=qd hN;have p8:=qd hid;clear he h hi hbd hN hid htp;unfold bU
 have hlt:¬(st.len:Int)<(C.M:Int):=by omega
 go_in;go_wp2_with fail;refine lZ.out.mono ?_;rintro y w1 ⟨rfl,h1⟩;have HC:=qd h1;clear h1 lZ;have p9:=qd (AR HC.out (e.hash) id h64 p8.out.symm (bG HN.out));unfold bU aR at p9;go_wp2_with fail;refine p9.out.mono ?_;rintro y w2 ⟨rfl,hb⟩;replace HC:=qd (HC.out.below hb);clear hb p9;obtain⟨c0,c1,c11,c12,c13,c14,c15⟩:=HC.out.cells;go_upto_region 3 with fail;go_region;clear c0 c1 c11 c12 c13 c14 c15;replace HC:=qd (HC.out.below (Below.refl w2.heap.size w2).drew);go_wp2_with fail;refine(nJ (some ⟨C.mb,3,none⟩) (World.drew w2)).mono ?_;rintro y w3 ⟨rfl,hb⟩;replace HC:=qd (HC.out.below hb);clear hb;obtain⟨Fi,n1,n2,n3,n4,n5,n6⟩:=HC.out.node HN.out;have hNe:e0∈N.ents:=Mf HI.out.dir sI.out.1 sI.out.2.2.2 (key:=e.key) (by rw[←Pd.out];exact p8.out.symm) HN.out he0 hk;have kG:=qd (D5 e false n1 n2 Pd.out h64 dX.out.v64 HC.out.aC.met HC.out.aC.env HC.out.aC.vJ n3 e0 hNe hk);have HX:=qd n6;have nL:=qd (fun(N1:Nd) (hw:Wr H [e0] [{e0 with val:=e.val}] N N1)=>Ql HI.out HN.out hw);clear n1 n2 n3 n4 n5 n6 hNe hk he0 hlt;unfold aR aW at kG;go_wp2_with fail;refine kG.out.mono ?_;rintro y w4 ⟨rfl,x4,N1,q1,q2,q3,q4,q5⟩;obtain⟨F4,Mg⟩:=HX.out w4 Fi _ N1 x4 q1 q2.ok (fun q hq=> .inl hq) q3 q5 (fun q hq=>List.mem_cons.1 hq);have kH:=qd Mg;have sZ:=qd q4;have vO:=qd q2;clear Mg q1 q2 q3 q4 q5 kG HX HC;obtain⟨ln,hln⟩:∃ln,ln=st.len:=⟨_,rfl⟩;have oO:=qd hln;go_upto_region 10 with fail;obtain⟨w6,oN⟩:∃w6,w6=w4:=⟨_,rfl⟩;rw[←oN]
 have Ej:aF W0 E H C w0 G0 w6 F4 {st with a:={st.a with Ns:=st.a.Ns.set id N1},x:=x4,len:=ln}:=by rw[oN,hln];exact kH.out
 clear kH oN hln;have iP:=qd Ej;have tN:=qd (wB iP.out.again id N1 (by show(st.a.Ns.set id N1)[id]?=some N1;rw[mJ (bG HN.out),if_pos rfl]) (nL.out N1 vO.out));clear Ej nL;unfold bU aR at tN;go_wp2_with fail;refine tN.out.mono ?_;rintro y w7 ⟨rfl,hmt⟩;obtain⟨hmt,_⟩:=hmt.chain iP.out;have pY:=qd hmt;clear hmt tN iP;go_wp2;refine bodyPost_ret (v:= .nilIface) (by simp[results,Tryz.results30,go_sem]) rfl ⟨rfl,id, ?_⟩;rw[←oO.out];exact⟨N,N1,x4,HN.out,vO.out,sZ.out,pY.out⟩
theorem Km (h:aF W0 E H C w0 G0 w F st)(hi:lW st.a st.ids [])(e:ay)(he:nu H e)(e0:ay)(he0:e0∈st.a.ents)(hk:e0.key=e.key):Calls Tryz.prog 30 #[bU C.mb,.int .u64 (e.key:Int),.int .u64 (e.val:Int),.int .u64 (e.hash:Int)] w fun y w'=>y= .returned (.nilIface)∧∃id,Em W0 E H C w0 G0 st id [e0] [{e0 with val:=e.val}] st.len w':=by
 by_cases hle:st.len<C.M
 ·exact G6 h hi e he e0 he0 hk hle
 ·exact G7 h hi e he e0 he0 hk hle
theorem Np (h:aF W0 E H C w0 G0 w F st)(hi:lW st.a st.ids [])(e:ay)(he:nu H e)(hk:∀y∈st.a.ents,y.key≠e.key)(hle:¬st.len<C.M):Calls Tryz.prog 30 #[bU C.mb,.int .u64 (e.key:Int),.int .u64 (e.val:Int),.int .u64 (e.hash:Int)] w fun y w'=>y= .returned (jO E 2)∧∃x',aF W0 E H C w0 G0 w' F {st with x:=x'}∧dV ⟨st.x.all,⟨0,0,0⟩⟩ x' 128 0:=by
 have h64:=he.h64;have dX:=qd he;have lZ:=qd (tq h);have hbd:=h.bounds;have sI:=qd hbd;have HI:=qd hi;obtain⟨N,hN,htp⟩:=hi.dir.at_ h64 hbd.1;have FU:=qd htp;obtain⟨id,hid⟩:∃id,id=st.a.l.getD (dZ (e.hash) st.a.d) 0:=⟨_,rfl⟩;rw[←hid]at hN;have HN:=qd hN;have p8:=qd hid;clear he h hi hbd hN hid htp;unfold bU
 have hlt:¬(st.len:Int)<(C.M:Int):=by omega
 go_in;go_wp2_with fail;refine lZ.out.mono ?_;rintro y w1 ⟨rfl,h1⟩;have HC:=qd h1;clear h1 lZ;have p9:=qd (AR HC.out (e.hash) id h64 p8.out.symm (bG HN.out));unfold bU aR at p9;go_wp2_with fail;refine p9.out.mono ?_;rintro y w2 ⟨rfl,hb⟩;replace HC:=qd (HC.out.below hb);clear hb p9;obtain⟨c0,c1,c11,c12,c13,c14,c15⟩:=HC.out.cells;go_upto_region 3 with fail;go_region;clear c0 c1 c11 c12 c13 c14 c15;replace HC:=qd (HC.out.below (Below.refl w2.heap.size w2).drew);go_wp2_with fail;refine(nJ (some ⟨C.mb,3,none⟩) (World.drew w2)).mono ?_;rintro y w3 ⟨rfl,hb⟩;replace HC:=qd (HC.out.below hb);clear hb;obtain⟨Fi,n1,n2,n3,n4,n5,n6⟩:=HC.out.node HN.out;have hNe:∀y∈N.ents,y.key≠e.key:=fun y hy=>hk y (o8.2 ⟨id,N,HN.out,hy⟩);have VT:=Rn e n1 n2 dX.out.hash h64 HC.out.aC.met HC.out.aC.env HC.out.aC.vJ n3 hNe;rw[iL E (by omega)]at VT;have kG:=qd VT;clear VT n1 n2 n3 n4 n5 n6 hNe hk;unfold aR aW at kG;go_wp2_with fail;refine kG.out.mono ?_;rintro y w4 ⟨rfl,x4,q3,q4,q5⟩;have kH:=qd (HC.out.met q3 q5);have sZ:=qd q4;clear q3 q4 q5 kG HC;have ce:w4.cell? ⟨5,0,none⟩=some (.iface 391 (.pointer (some (E 2)))):=kH.out.aC.env.errs.at_ 2 (by omega) (by omega);have Ob:=qd (RS (E 2) w4);go_wp2_with fail;refine Ob.out.mono ?_;rintro y w5 ⟨rfl,rfl⟩;go_wp2_with fail;refine(DI w4).mono ?_;rintro y w5 ⟨rfl,rfl⟩;go_wp2
 refine bodyPost_ret (v:= .iface 391 (.pointer (some (E 2)))) (by simp[results,Tryz.results30,go_sem]) rfl ⟨?_,x4,kH.out,sZ.out⟩;rw[iL E (by omega)]
end
def nd0:Nd:=⟨0,0,0,0,dM 1 1,.idle⟩
def nC:Pool:=⟨[nd0],0,[0],none⟩
theorem adQ (H:Nat→Nat):eu H nd0:=by
 obtain⟨h1,h2,h3⟩:=J8 (n:=1) (.inl rfl)
 have hE:nd0.ents=[]:=by unfold Nd.ents nd0;rw[h2];rfl
 refine⟨h1,Nat.zero_le _,.inl rfl,by decide,Nat.zero_le _,by rw[hE];exact List.nodup_nil,fun e he=>(by rw[hE]at he;cases he),by rw[hE];exact Nat.zero_le _,rfl, ?_⟩;show load (dM 1 1)≤_;rw[h3];exact Nat.zero_le _
theorem aeC:nC.ents=[]:=by
 obtain⟨h1,h2,h3⟩:=J8 (n:=1) (.inl rfl)
 have hE:nd0.ents=[]:=by unfold Nd.ents nd0;rw[h2];rfl
 unfold Pool.ents nC;simp[hE]
theorem inv0:lW nC [] []:=by
 have hget:∀(i:Nat) (N:Nd),nC.Ns[i]?=some N→i=0∧N=nd0:=fun i N hN=>by
  have h1:i<1:=bG hN
  obtain rfl:i=0:=by omega
  exact⟨rfl,(Option.some.inj hN).symm⟩
 refine⟨⟨fun i N hN=> ?_,fun j hj=> ?_,fun i N j hN hj hp=> ?_,rfl,fun i N hN hb=> ?_,fun c hc=>by cases hc⟩,fun id=> ?_,List.nodup_nil,List.nodup_nil,fun i hi=>(by cases hi),fun i hi=>(by cases hi),fun i hi=>(by cases hi),fun i N hN _=> ?_⟩
 ·obtain⟨_,rfl⟩:=hget i N hN;exact⟨Nat.le_refl _,by decide⟩
 ·have h1:j<1:=hj
  obtain rfl:j=0:=by omega
  exact⟨nd0,rfl,rfl⟩
 ·obtain⟨rfl,rfl⟩:=hget i N hN;have h1:j<1:=hj
  obtain rfl:j=0:=by omega
  rfl
 ·obtain⟨_,rfl⟩:=hget i N hN;cases hb
 ·constructor
  ·rintro(⟨N,h1,h2⟩|⟨_,_,c,h3⟩)
   ·obtain⟨_,rfl⟩:=hget id N h1;cases h2
   ·cases h3
  ·rintro(h|h)<;>cases h
 ·obtain⟨_,rfl⟩:=hget i N hN;rfl
def o9 (K M I db sb vb:Nat):Array Value:= #[.int .i64 (K:Int),.int .i64 (M:Int),.int .i64 (I:Int),.int .i64 0,.int .i64 0,.int .i64 0,.int .i64 0,.int .i64 0,.int .i64 0,.bool false,.int .i64 0,.slice (some ⟨vb,0,none⟩) 1 1,.pointer (some ⟨db,0,none⟩),.pointer none,.pointer (some ⟨sb,0,none⟩),.int .i64 0]
def st0:mW:=⟨nC,[],0,0,zO⟩
def yK (nb db eb:Nat):cB:=⟨fun _=>nb,db,eb,0,0,0⟩
theorem aF.fresh {W0:World}{E:Nat→Addr}(H:Nat→Nat){w w5:World}{nb tb gb db eb sb qb rb jb vb K M I:Nat}(hE:Env W0 E w)(hK:1≤K∧K≤64)(hM:1≤M∧M≤192)(hb:Below w.heap.size w w5)(hN:bL w5 nb [nb,tb,gb] nd0)(hD:cu w5 db eb 0 [0])(hS:dS w5 sb qb rb jb (K:Int) 0 (yK nb db eb).val [])
  (hR:w5.ownsRow W0.heap.size 122 1 (.slice (some ⟨vb,0,none⟩) 1 1) 1 [.pointer (some ⟨nb,0,none⟩)]) (hlow:∀q∈[nb,tb,gb,db,eb,sb,qb,rb,jb,vb],w.heap.size≤q) (hap:∀q∈[nb,tb,gb],q∉[db,eb,sb,qb,rb,jb,vb]) (adR:∀q∈[db,eb],q∉[sb,qb,rb,jb,vb]) (afq:∀q∈[sb,qb,rb,jb],q≠vb):
  ∃F,aF W0 E H ⟨w5.heap.size,sb,qb,rb,jb,yK nb db eb,.slice (some ⟨vb,0,none⟩) 1 1,K,M,I,0⟩ w [] (w5.alloc (.cells (o9 K M I db sb vb) 134)) F st0:=by
 have hb6:Below w5.heap.size w5 (w5.alloc (.cells (o9 K M I db sb vb) 134)):=(Below.refl _ _).alloc (Nat.le_refl _) _;have oo:=Mod.of_below hb6 [];have hz:=hb.size;have hzW:=hE.size;have hvl:=(hR.lt vb rfl).2;have R7:=hN.iE;have hSl:=hS.lt
 have aeD:∀(i:Nat) (N:Nd),[nd0][i]?=some N→i=0∧N=nd0:=fun i N hh=>by
  have h1:i<1:=bG hh
  obtain rfl:i=0:=by omega
  exact⟨rfl,(Option.some.inj hh).symm⟩
 have hfp:∀q,q∈gK (yK nb db eb) (fun _=> [nb,tb,gb]) nC↔q∈[nb,tb,gb,db,eb]:=fun q=>by
  rw[aM];constructor
  ·rintro(⟨i,_,hq⟩|hq)
   ·simp at hq⊢;omega
   ·unfold cB.dW yK nC at hq;simp at hq⊢;omega
  ·intro hq;by_cases h1:q∈[nb,tb,gb]
   ·exact .inl ⟨0,by decide,h1⟩
   ·refine .inr ?_;unfold cB.dW yK nC;simp at hq h1⊢;omega
 have aeE:iN W0 w5.heap.size H (yK nb db eb) (w5.alloc (.cells (o9 K M I db sb vb) 134)) (fun _=> [nb,tb,gb]) nC:=by
  refine⟨fun i N hi=> ?_,hD.mod oo (by simp) (by simp),fun next lf hc=>(by cases hc),fun i j hi hj hij=> ?_,fun i hi q hq hq2=> ?_,fun q hq=> ?_,fun hq=> ?_,by decide⟩
  ·obtain⟨_,rfl⟩:=aeD i N hi;exact⟨hN.mod oo (by simp),adQ H⟩
  ·have h1:i<1:=hi;have h2:j<1:=hj;omega
  ·unfold cB.dW yK nC at hq2;exact hap q hq (by simp at hq2⊢;omega)
  ·have h1:=(hfp q).1 hq;have:=hlow q (by simp at h1⊢;omega);omega
  ·have h1:=(hfp _).1 hq;simp at h1;have h2:=hD.lt;have h3:=hD.LH;have h4:=R7 nb (by simp);have h5:=R7 tb (by simp);have h6:=R7 gb (by simp);omega
 have hmet:aQ (w5.alloc (.cells (o9 K M I db sb vb) 134)) (cmp ⟨w5.heap.size,sb,qb,rb,jb,yK nb db eb,.slice (some ⟨vb,0,none⟩) 1 1,K,M,I,0⟩ st0) zO:=⟨rfl,aj.new w5 134 (o9 K M I db sb vb)⟩;have hsb:∀q∈[sb,qb,rb,jb],q<w5.heap.size:=hSl;refine⟨gK (yK nb db eb) (fun _=> [nb,tb,gb]) nC,bq.start (hS.mod oo (by simp)) ⟨_,rfl,aeE⟩ hmet (hE.mod ((Mod.of_below hb []).then oo) (by simp)) (fun q hq=>⟨fun hqF=> ?_, ?_, ?_⟩) (by show W0.heap.size≤w5.heap.size;omega),hR.alloc _,fun g hg hq=> ?_,by decide,hK,hM,hzW,fun q hq=> ?_,(Mod.of_below hb []).then oo⟩
 ·have hq':q∈[sb,qb,rb,jb]:=hq;have h1:=(hfp q).1 hqF;by_cases h2:q∈[nb,tb,gb]
  ·exact hap q h2 (by simp at hq'⊢;omega)
  ·exact adR q (by simp at h1 h2⊢;omega) (by simp at hq'⊢;omega)
 ·have:=hsb q hq;show q≠w5.heap.size;omega
 ·have hq':q∈[sb,qb,rb,jb]:=hq;have:=hlow q (by simp at hq'⊢;omega);omega
 ·have hg':g=vb:=by simpa using(Option.some.inj hg).symm
  subst hg'
  have hq':g=w5.heap.size∨g∈[sb,qb,rb,jb]∨g∈gK (yK nb db eb) (fun _=> [nb,tb,gb]) nC:=by
   rcases List.mem_cons.1 hq with h3|h3
   ·exact .inl h3
   ·exact .inr (List.mem_append.1 h3)
  rcases hq' with h1|h1|h1
  ·omega
  ·exact afq g h1 rfl
  ·have h2:=(hfp g).1 h1;by_cases h3:g∈[nb,tb,gb]
   ·exact hap g h3 (by simp)
   ·exact adR g (by simp at h2 h3⊢;omega) (by simp)
 ·right;rcases aY.1 hq with h1|h1|h1|h1
  ·have h2:q=w5.heap.size:=h1;omega
  ·have h2:q∈[sb,qb,rb,jb]:=h1;exact hlow q (by simp at h2⊢;omega)
  ·have h2:=(hfp q).1 h1;exact hlow q (by simp at h2⊢;omega)
  ·have h2:q=vb:=by simpa using(Option.some.inj h1).symm
   exact hlow q (by simp[h2])
def afr (Ns:List Nd)(i:Nat):Nat:=((Ns.take i).map Nd.groups).sum
section
variable {W0 w : World} {E : Nat → Addr}
def NewAt (W0:World)(E:Nat→Addr)(H:Nat→Nat)(K M:Nat)(w:World)(mb:Nat)(w':World):Prop:=∃(C:iO) (F:List Nat),C.mb=mb∧C.K=K∧C.M=M∧aF W0 E H C w [] w' F st0
theorem aaN (H:Nat→Nat)(hE:Env W0 E w)(k m i:Int)(hcf:BO k m i=true)(K M I:Nat)(hkm:(1≤K∧K≤64)∧(1≤M∧M≤192)∧k=(K:Int)∧m=(M:Int)∧i=(I:Int)):Calls Tryz.prog 26 #[kR k m i] w fun e w'=>∃mb,e= .returned (.tuple #[bU mb,.nilIface])∧NewAt W0 E H K M w mb w':=by
 have Jr:=qd hkm;clear hkm;have DK:=qd hE;have hB0:=aj.new w 44 #[.int .i64 k,.int .i64 m,.int .i64 i];have hb0:=(Below.refl w.heap.size w).alloc (Nat.le_refl _) (.cells #[.int .i64 k,.int .i64 m,.int .i64 i] 44);unfold kR;go_in;go_upto_region 1 with fail;refine dx (F:=fun v=>aj v w.heap.size 44 #[.int .i64 k,.int .i64 m,.int .i64 i]∧Below w.heap.size w v) ⟨hB0,hb0⟩ ?_;clear hB0 hb0;rintro w1 ⟨hB1,hb1⟩;obtain⟨bx,hbx⟩:∃bx,bx=w.heap.size:=⟨_,rfl⟩;rw[←hbx]at hB1⊢;have kQ:=qd hbx;have HB:=qd hB1;have AX:=qd (hE.mod (Mod.of_below hb1 []) (by simp));have nM:=qd hb1;obtain⟨k0,k1,k2⟩:=hB1.c3;have XT:=qd (Jf k m i w1 AX.out.errs);rw[hcf]at XT;simp only[if_true]at XT;unfold kR at XT;have hz1:=hb1.size;have ahu:=HB.out.lt;clear hB1 hb1 hE hbx;go_wp2_with fail;refine XT.out.mono ?_;rintro y w2 ⟨rfl,hb2⟩;replace HB:=qB hb2 HB;replace nM:=qd (yE nM.out hb2);replace AX:=qB hb2 AX;have hz2:=hb2.size;clear hb2 XT k0 k1 k2;go_wp2_with fail;refine(aaf w2).mono ?_;rintro y w3 ⟨nb,tb,gb,rfl,hn1,hn2,⟨l1,l2,l3,l4,l5⟩,hb3⟩;have HN:=qd (show bL w3 nb [nb,tb,gb] nd0 from⟨tb,gb,hn1,hn2,rfl,l4,l5⟩);replace HB:=qB hb3 HB;replace nM:=qd (yE nM.out hb3);replace AX:=qB hb3 AX;have hz3:=hb3.size;have l6:=hn2.ne;have hnl:=HN.out.iE;have ahv:=hnl nb (by simp);have ahw:=hnl tb (by simp);have ahx:=hnl gb (by simp);clear hb3 hn1 hn2 hnl;unfold aR;have HDn:=qd (show Calls Tryz.prog 54 #[.int .i64 0] w3 _ from Sr 0 (by omega) w3);unfold iB at HDn
 go_wp2_with fail;refine HDn.out.mono ?_;rintro y w4 ⟨rfl,hd4,hb4⟩;have HD:=qd (show cu w4 (w3.heap.size+1) w3.heap.size 0 [0]from hd4);replace HN:=qd (HN.out.mod (Mod.of_below hb4 []) (by simp));replace HB:=qB hb4 HB;replace nM:=qd (yE nM.out hb4);replace AX:=qB hb4 AX;have Xz:=hb4.size;have afs:=HD.out.lt;have aft:=HD.out.LH;obtain⟨db,hdb⟩:∃db,db=w3.heap.size+1:=⟨_,rfl⟩;obtain⟨eb,Lj⟩:∃eb,eb=w3.heap.size:=⟨_,rfl⟩;rw[←hdb,←Lj]at HD;rw[←hdb];rw[←hdb]at afs;rw[←Lj]at aft;have tZ:=qd hdb;have rF:=qd Lj;clear hb4 hd4 HDn hdb Lj;have kk:=HB.out.c3;have dO:=qd (Xr k (by have:=Jr.out;omega) (yK nb db eb).val w4 AX.out.errs);unfold eG at dO;go_wp2_with fail;refine dO.out.mono ?_;rintro y w5 ⟨sb,qb,rb,jb,rfl,hs5,hsl,hb5⟩;have HS:=qd hs5;replace HN:=qd (HN.out.mod (Mod.of_below hb5 []) (by simp));replace HD:=qB hb5 HD;replace HB:=qB hb5 HB;replace nM:=qd (yE nM.out hb5);replace AX:=qB hb5 AX;have hz5:=hb5.size;have HSl:=qd hsl;clear kk hb5 hs5 dO hsl;have kk:=HB.out.c3;go_wp2;have hrow:=World.ownsRow_lit (base:=W0.heap.size) (e:=122) (size:=1) w5 #[.pointer (some ⟨nb,0,none⟩)] 1 (by have:=AX.out.size;omega) (by decide) rfl;have hb6:Below w5.heap.size w5 (w5.alloc (.cells #[.pointer (some ⟨nb,0,none⟩)] 122)):=(Below.refl _ _).alloc (Nat.le_refl _) _;have oo:=Mod.of_below hb6 [];have hsl:=HSl.out;have hd1:=tZ.out;have hd2:=rF.out;have s1:=hsl sb (by simp);have s2:=hsl qb (by simp);have s3:=hsl rb (by simp);have s4:=hsl jb (by simp);have hslt:=HS.out.lt
 have t1:=hslt sb (by simp);have t2:=hslt qb (by simp);have t3:=hslt rb (by simp);have t4:=hslt jb (by simp);have ahy:=kQ.out
 obtain⟨F,hF⟩:=aF.fresh H (w:=w) (w5:=w5.alloc (.cells #[.pointer (some ⟨nb,0,none⟩)] 122)) (nb:=nb) (tb:=tb) (gb:=gb) (db:=db) (eb:=eb) (sb:=sb) (qb:=qb) (rb:=rb) (jb:=jb) (vb:=w5.heap.size) (K:=K) (M:=M) (I:=I) DK.out Jr.out.1 Jr.out.2.1 (yE nM.out hb6) (HN.out.mod oo (by simp)) (HD.out.mod oo (by simp) (by simp)) (Jr.out.2.2.1▸HS.out.mod oo (by simp)) hrow
  (by intro q hq;simp at hq;omega) (by intro q hq;simp at hq⊢;omega) (by intro q hq;simp at hq⊢;omega) (by intro q hq;simp at hq;omega)
 have hkk:=Jr.out.2.2
 have hq:o9 K M I db sb w5.heap.size= #[.int .i64 k,.int .i64 m,.int .i64 i,.int .i64 0,.int .i64 0,.int .i64 0,.int .i64 0,.int .i64 0,.int .i64 0,.bool false,.int .i64 0,.slice (some ⟨w5.heap.size,0,none⟩) 1 1,.pointer (some ⟨db,0,none⟩),.pointer none,.pointer (some ⟨sb,0,none⟩),.int .i64 0]:=by
  unfold o9;rw[hkk.1,hkk.2.1,hkk.2.2]
 rw[hq]at hF;refine bodyPost_ret (v:= .tuple #[.pointer (some ⟨w5.heap.size+1,0,none⟩),.nilIface]) (by simp[results,Tryz.results26,go_sem]) rfl ⟨w5.heap.size+1,rfl,⟨_,F, ?_,rfl,rfl,hF⟩⟩;simp
end
section
variable {α : Type} {id : Nat} {W0 w : World} {E : Nat → Addr}
def ahz {α:Type}(left:α→Nat→Nat)(a:α)(ids:List Nat):Nat:=(ids.map (left a)).sum
def Qo (l:Lit→Bool)(rem:List Nat):Prop:=∀x:Int,(Lit.int .i64 x).wf=true→(l (.int .i64 x)=true↔∃id∈rem,x=(id:Int))
theorem Qo.next {l:Lit→Bool}{rem:List Nat}(h:Qo l rem)(hn:rem.Nodup):Qo (fun z=>l z && !z.sameKey (.int .i64 (id:Int))) (rem.erase id):=fun x hx=>by
 have hk:(Lit.int .i64 x).sameKey (.int .i64 (id:Int))=decide (x=(id:Int)):=by simp[Lit.sameKey]
 show(l (.int .i64 x) && !(Lit.int .i64 x).sameKey (.int .i64 (id:Int)))=true↔_;rw[hk,Bool.and_eq_true,h x hx];constructor
 ·rintro⟨⟨j,hj,rfl⟩,h2⟩
  have h3:¬(j:Int)=(id:Int):=by simpa using h2
  exact⟨j,(List.mem_erase_of_ne (fun e=>h3 (by rw[e]))).2 hj,rfl⟩
 ·rintro⟨j,hj,rfl⟩;rw[hn.mem_erase_iff]at hj;have h3:¬(j:Int)=(id:Int):=fun e=>hj.1 (by omega);exact⟨⟨j,hj.2,rfl⟩,by simpa using h3⟩
end
section
variable {g gl id k len' lo mx : Nat} {N N1 : Nd} {add del : List ay} {C : iO} {F aP : List Nat} {a' : Pool} {t : Int}
def jk (W0:World)(E:Nat→Addr)(H:Nat→Nat)(K M mb:Nat)(G:List Nat)(w:World)(a:Pool)(ids:List Nat):Prop:=
 ∃(C:iO) (F:List Nat) (len:Nat) (b:Int) (x:bJ),C.mb=mb∧C.K=K∧C.M=M∧G=C.foot F∧aF W0 E H C w (C.foot F) w F ⟨a,ids,len,b,x⟩∧lW a ids []∧len=a.ents.length∧len≤M
def pq (W0:World)(E:Nat→Addr)(H:Nat→Nat)(K M mb:Nat)(G:List Nat)(w w':World)(a':Pool)(aP:List Nat):Prop:=
 ∃G',jk W0 E H K M mb G' w' a' aP∧(∀q∈G',q∈G∨w.heap.size≤q)∧Mod G w w'
def WrS (H:Nat→Nat)(K:Nat)(a:Pool)(ids:List Nat)(del add:List ay)(a':Pool)(aP:List Nat):Prop:=
 ∃(id:Nat) (N N1:Nd),a.Ns[id]?=some N∧Wr H del add N N1∧abv H K {a with Ns:=a.Ns.set id N1} ids id a' aP∧uf del add a.ents a'.ents∧a'.ents.Perm ((a.Ns.set id N1).flatMap Nd.ents)
theorem adS {H:Nat→Nat}{a:Pool}(hN:a.Ns[id]?=some N)(hw:Wr H del add N N1):uf del add a.ents ((a.Ns.set id N1).flatMap Nd.ents):=by
 obtain⟨B,B',b1,b2⟩:=rV (N':=N1) hN;unfold Pool.ents;rw[b1,b2];exact hw.Jd.wrap B B'
section
variable {W0 : World} {E : Nat → Addr} {H : Nat → Nat} {K M mb : Nat} {G : List Nat} {w w' : World} {a : Pool} {ids : List Nat}
theorem pq.of {A':cB}{v':Value}{F':List Nat}{b':Int}{x':bJ}(h1:C.mb=mb)(h2:C.K=K)(h3:C.M=M)(hc:aF W0 E H {C with A:=A',v:=v'} w (C.foot F) w' F' ⟨a',aP,len',b',x'⟩)(hi:lW a' aP [])(hl:len'=a'.ents.length)(hm:len'≤M):pq W0 E H K M mb (C.foot F) w w' a' aP:=
 ⟨({C with A:=A',v:=v'}:iO).foot F',⟨{C with A:=A',v:=v'},F',len',b',x',h1,h2,h3,rfl,hc.again,hi,hl,hm⟩,hc.sub,hc.mod⟩
theorem Mh {len:Nat}{b:Int}{x:bJ}(h1:C.mb=mb)(h2:C.K=K)(h3:C.M=M)(hl:len=a.ents.length)(hl':len'+del.length=len+add.length)(hm:len'≤M)(h:Em W0 E H C w (C.foot F) ⟨a,ids,len,b,x⟩ id del add len' w'):
  ∃a' aP,WrS H K a ids del add a' aP∧pq W0 E H K M mb (C.foot F) w w' a' aP:=by
 obtain⟨N,N1,x1,hN,hw,_,A',v',F',a',aP,b',x',u,k1,k2,k3,k4,_⟩:=h;have hch:=adS hN hw;have adT:uf del add a.ents a'.ents:=hch.perm (.refl _) k3;have hlen:=adT.len;exact⟨a',aP,⟨id,N,N1,hN,hw,h2▸k1,adT,k3⟩,pq.of h1 h2 h3 k4 k2 (by show len'=_;omega) hm⟩
theorem adU (h:jk W0 E H K M mb G w a ids)(e:ay)(he:nu H e):Calls Tryz.prog 30 #[bU mb,.int .u64 (e.key:Int),.int .u64 (e.val:Int),.int .u64 (e.hash:Int)] w fun y w'=>
  (look a.ents e.key=none∧M≤a.ents.length∧y= .returned (jO E 2)∧pq W0 E H K M mb G w w' a ids)∨
  (∃a' aP,look a.ents e.key=none∧a.ents.length<M∧y= .returned .nilIface∧WrS H K a ids [] [e] a' aP∧pq W0 E H K M mb G w w' a' aP)∨
  (∃a' aP e0,look a.ents e.key=some e0∧y= .returned .nilIface∧WrS H K a ids [e0] [{e0 with val:=e.val}] a' aP∧pq W0 E H K M mb G w w' a' aP):=by
 obtain⟨C,F,len,b,x,h1,h2,h3,rfl,hC,hi,hl,hm⟩:=h;rw[←h1]
 cases hlk:look a.ents e.key with
 |some e0=>
  obtain⟨m1,m2⟩:=yw hlk;refine(Km hC hi e he e0 m1 m2).mono ?_;rintro y w' ⟨rfl,id,hp⟩;obtain⟨a',aP,k1,k2⟩:=Mh h1 h2 h3 hl (by simp) hm hp;exact .inr (.inr ⟨a',aP,e0,rfl,rfl,k1,h1▸k2⟩)
 |none=>
  have hno:∀y∈a.ents,y.key≠e.key:=fun y hy hk=>by
   unfold look at hlk;rw[List.find?_eq_none]at hlk;exact hlk y hy (by simpa using hk)
  by_cases hlt:len<C.M
  ·refine(Qn hC hi e he hno hlt hl).mono ?_;rintro y w' ⟨rfl,id,hp⟩;obtain⟨a',aP,k1,k2⟩:=Mh h1 h2 h3 hl (by simp) (by show len+1≤M;omega) hp;exact .inr (.inl ⟨a',aP,rfl,by omega,rfl,k1,h1▸k2⟩)
  ·refine(Np hC hi e he hno hlt).mono ?_;rintro y w' ⟨rfl,x',hc,_⟩;exact .inl ⟨rfl,by omega,rfl,h1▸pq.of (A':=C.A) (v':=C.v) h1 h2 h3 hc hi hl hm⟩
theorem adV (h:jk W0 E H K M mb G w a ids):Calls Tryz.prog 67 #[bU mb] w fun e w'=>e= .returned (.int .i64 (a.ents.length:Int))∧w=w':=by
 obtain⟨C,F,len,b,x,h1,h2,h3,rfl,hC,hi,hl,hm⟩:=h;rw[←h1,←hl];exact aaE hC
theorem jk.mod {S:List Nat}(h:jk W0 E H K M mb G w a ids)(hm:Mod S w w')(hS:∀q∈S,q∉G∧W0.heap.size≤q):jk W0 E H K M mb G w' a ids:=by
 obtain⟨C,F,len,b,x,h1,h2,h3,rfl,hC,hi,hl,hm'⟩:=h
 have hd:∀q∈S,q≠C.mb∧q∉C.s.blocks∧q∉F∧C.v.ownBlock≠some q:=fun q hq=>by
  have:=(hS q hq).1;rw[aY]at this;simp only[not_or]at this;exact this
 refine⟨C,F,len,b,x,h1,h2,h3,rfl,⟨bq.start (hC.aC.aC.mod hm (fun q hq dK=>(hd q dK).2.1 hq)) (hC.hp.zR hC.aC.pool hm (fun q hq dK=>(hd q dK).2.2.1 hq)) (hC.aC.met.mod hm (fun hq=>(hd _ hq).1 rfl)) (hC.aC.env.mod hm (fun q hq=>(hS q hq).2)) hC.aC.apart hC.aC.vJ,jI hC.row hm (fun k hk Ju=>(hd k Ju).2.2.2 hk),hC.AQ,hC.pos,hC.kk,hC.mm, ?_,fun q hq=> .inl hq,Mod.refl _ _⟩,hi,hl,hm'⟩;have:=hC.aC.env.size;have:=hm.size;omega
theorem jk.below (h:jk W0 E H K M mb G w a ids)(hb:Below w.heap.size w w'):jk W0 E H K M mb G w' a ids:=h.mod (Mod.of_below hb []) (by simp)
theorem jk.facts (h:jk W0 E H K M mb G w a ids):lW a ids []∧a.d≤5∧a.Ns.length≤32∧1≤a.Ns.length∧a.Ns.length≤2^a.d∧(∀(i:Nat) (N:Nd),a.Ns[i]?=some N→eu H N)∧a.ents.length≤M∧M≤192∧(1≤K∧K≤64)∧(a.ents.map ay.key).Nodup∧(∀q∈G,q<w.heap.size∧W0.heap.size≤q)∧Env W0 E w:=by
 obtain⟨C,F,len,b,x,h1,h2,h3,rfl,hC,hi,hl,hm⟩:=h;obtain⟨b1,b2,b3,b4⟩:=hC.bounds;have h4:=hC.mm;have h5:=hC.kk;exact⟨hi,b1,b2,hC.pos,hi.dir.nodes,b4,by omega,by omega,by omega,U3 hi.dir b1 b4,fun q hq=>⟨hC.iE q hq,hC.aaC q hq⟩,hC.aC.env⟩
theorem adW {H:Nat→Nat}(h:NewAt W0 E H K M w mb w'):pq W0 E H K M mb [] w w' nC []:=by
 obtain⟨C,F,h1,h2,h3,hC⟩:=h;exact⟨_,⟨C,F,0,0,zO,h1,h2,h3,rfl,hC.again,inv0,by rw[aeC];rfl,Nat.zero_le _⟩,hC.sub,hC.mod⟩
end
def GB (mx:Nat)(a:Pool):Prop:=∀(i:Nat) (N:Nd),a.Ns[i]?=some N→N.len≤mx∧N.each≤mx∧N.groups≤2*mx
theorem GB.more {mx':Nat}{a:Pool}(h:GB mx a)(hm:mx≤mx'):GB mx' a:=fun i N hN=>by
 have:=h i N hN;omega
end
section
variable {es l : List ay} {e : ay} {key : Nat}
def jY (a:Pool):List Nat:=a.Ns.map fun N=>lg N.pfx N.au
theorem vP {h d p:Nat}:dZ h d=p↔mZ p d≤h∧h≤lg p d:=by
 unfold dZ mZ lg;have:=pos2 (64-d);rw[vM];omega
theorem Rq {f:ay}{l':List ay}{o:Option ay}(h:fP f l o)(h1:∀e∈l',bA e f=false→e∈l)(h2:∀e∈l,e∈l'):fP f l' o:=by
 cases o with
 |none=>
  intro e he
  cases hl:bA e f with
  |true=>rfl
  |false=>exact absurd (h e (h1 e he hl)) (by rw[hl];simp)
 |some m=>exact⟨h2 m h.1,h.2.1,fun e he hl=>h.2.2 e (h1 e he hl) hl⟩
theorem Mi {hash:Nat}(h:bA e ⟨key,0,hash⟩=false):hash≤e.hash:=by
 simp[bA]at h;omega
def upto (es:List ay)(hi:Nat):List ay:=es.filter fun e=>decide (e.hash≤hi)
theorem pz {hi:Nat}:e∈upto es hi↔e∈es∧e.hash≤hi:=by unfold upto;simp
def rest (es:List ay)(key:Nat):List ay:=es.filter fun x=>x.key !=key
theorem Mj (h:look es key=none):rest es key=es:=by
 unfold look at h;rw[List.find?_eq_none]at h
 exact List.filter_eq_self.2 fun x hx=>by simpa using h x hx
theorem XU (key:Nat)(h:es.Perm l):(rest es key).Perm (rest l key):=h.filter _
theorem Mk {r:List ay}(hn:(es.map ay.key).Nodup)(h:es.Perm (e::r)):(rest es e.key).Perm r:=by
 have h1:=XU e.key h;have h2:=(h.map ay.key).nodup_iff.1 hn;rw[List.map_cons,List.nodup_cons]at h2
 have h3:rest (e::r) e.key=r:=by
  unfold rest;rw[List.filter_cons,if_neg (by simp)]
  exact List.filter_eq_self.2 fun x hx=>by
   have:x.key≠e.key:=fun hh=>h2.1 (by rw[←hh];exact List.mem_map_of_mem hx);simpa using this
 rw[h3]at h1;exact h1
def tu (M:Nat)(es:List ay)(key:Nat):Bool:=(look es key).isNone && decide (M≤es.length)
def uG (M:Nat)(es:List ay)(key:Nat):Nat:=if tu M es key then 2 else 0
def Kn (M:Nat)(es:List ay)(e:ay):List ay:=if tu M es e.key then es else rest es e.key++[e]
def ahA (es:List ay)(key:Nat):Value:= .tuple #[.int .u64 (((look es key).getD ⟨0,0,0⟩).val:Int),.bool (look es key).isSome]
section
variable {W0 : World} {E : Nat → Addr} {H : Nat → Nat} {K M mb : Nat} {G : List Nat} {w w' : World} {a : Pool} {ids : List Nat}
end
end
end Go.Proofs.YtjfgpnapccdnlaaGreatDoor
