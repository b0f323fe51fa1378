/- A core's Get, Put, Delete by their contracts. -/
import Derived.Test.YtgiaobmcbbfmnaaGreatDoorCoCN
import Derived.Test.YtgiaobmcbbfmnaaGreatDoorKit2
import Derived.Test.YtgiaobmcbbfmnaaGreatDoorSqT
import Derived.Test.YtgiaobmcbbfmnaaGreatDoorSq
import Derived.Test.YtgiaobmcbbfmnaaGreatDoorCoBQ
namespace Go.Proofs.YtgiaobmcbbfmnaaGreatDoor
set_option maxRecDepth 100000
set_option maxHeartbeats 4000000
open Go.RowKit dw Go.Maps
section
variable {a : Pool} {e : ay} {id key : Nat} {N : Nd}
theorem Uq {H:Nat→Nat}(hd:eT a)(h5:a.d≤5)(ho:∀(i:Nat) (N:Nd),a.Ns[i]?=some N→dY H N):(a.ents.map ay.key).Nodup:=by
 unfold Pool.ents;rw[List.map_flatMap];unfold List.Nodup;rw[List.pairwise_flatMap];refine⟨fun N hN=> ?_, ?_⟩
 ·obtain⟨i,hi⟩:=List.getElem?_of_mem hN;exact(ho i N hi).keys
 ·rw[List.pairwise_iff_getElem];intro i j hi hj hij x hx y hy hxy;obtain⟨e,he,rfl⟩:=List.mem_map.1 hx;obtain⟨e',he',rfl⟩:=List.mem_map.1 hy;have g1:a.Ns[i]?=some a.Ns[i]:=List.getElem?_eq_getElem hi;have g2:a.Ns[j]?=some a.Ns[j]:=List.getElem?_eq_getElem hj;obtain⟨k1,k2⟩:=(ho _ _ g1).hash e he;obtain⟨k3,k4⟩:=(ho _ _ g2).hash e' he'
  have hh:e.hash=e'.hash:=by rw[k1.hash,k3.hash,hxy]
  have a1:=hd.PN k1.h64 h5 g1 k2;have a2:=hd.PN k3.h64 h5 g2 k4;rw[hh,a2]at a1;omega
theorem oZ:e∈a.ents↔∃(i:Nat) (N:Nd),a.Ns[i]?=some N∧e∈N.ents:=by
 unfold Pool.ents;rw[List.mem_flatMap];constructor
 ·rintro⟨N,h1,h2⟩;obtain⟨i,hi⟩:=List.getElem?_of_mem h1;exact⟨i,N,hi,h2⟩
 ·rintro⟨i,N,h1,h2⟩;exact⟨N,List.mem_of_getElem? h1,h2⟩
theorem LM {H:Nat→Nat}(hd:eT a)(h5:a.d≤5)(ho:∀(i:Nat) (N:Nd),a.Ns[i]?=some N→dY H N)(hid:a.l.getD (dX (H key) a.d) 0=id)(hN:a.Ns[id]?=some N)(he:e∈a.ents)(hk:e.key=key):e∈N.ents:=by
 obtain⟨j,M,h1,h2⟩:=oZ.1 he;obtain⟨k1,k2⟩:=(ho j M h1).hash e h2;have:=hd.PN k1.h64 h5 h1 k2;rw[k1.hash,hk,hid]at this;subst this;rw[hN]at h1;cases h1;exact h2
theorem P8 {H:Nat→Nat}{ids:List Nat}{N1:Nd}{del add:List ay}(h:jf a ids [])(hN:a.Ns[id]?=some N)(hw:Wr H del add N N1):Uo {a with Ns:=a.Ns.set id N1} ids id:=by
 have hid:=bC hN;have hget:=mD (N':=N1) hid;have hL:=hw.like;refine⟨h.dir.alike hN hL.pfx hL.au (fun hb hk=>h.dir.split id N hN (by rw[←hL.busy];exact hb) (by rw[←hL.kind];exact hk)),fun j=> ?_,h.nd,fun j hj=> ?_,fun i X hX hi=> ?_⟩
 ·have:=h.gG j;simp only[List.not_mem_nil,or_false]at this;rw[←this];unfold Pool.can;simp only;rw[hget];by_cases hj:j=id
  ·subst hj;rw[if_pos rfl,hN];simp[hL.busy]
  ·rw[if_neg hj]
 ·have:=h.some_ j hj;unfold Pool.left at this⊢;simp only;rw[hget];by_cases hj2:j=id
  ·subst hj2;rw[if_pos rfl];rw[hN]at this;show 1≤N1.left;rw[hw.left];exact this
  ·rw[if_neg hj2];exact this
 ·have iy:(a.Ns.set id N1)[i]?=some X:=hX;rw[hget,if_neg hi]at iy;exact h.sl i X iy (by simp)
def Ef (W0:World)(E:Nat→Addr)(H:Nat→Nat)(C:fA)(w0:World)(G0:List Nat)(st:mK)(id:Nat)(del add:List ay)(len':Nat)(w':World):Prop:=
 ∃(N N1:Nd) (x1:bH),st.a.Ns[id]?=some N∧Wr H del add N N1∧dN ⟨st.x.all,⟨0,0,0⟩⟩ x1 128 0∧tH W0 E H C w0 G0 {st with a:={st.a with Ns:=st.a.Ns.set id N1},len:=len',x:=x1} id w'
section
variable {W0 : World} {E : Nat → Addr} {H : Nat → Nat} {C : fA} {w0 : World} {G0 : List Nat} {w w' : World} {F : List Nat} {st : mK}
theorem tJ (h:aC W0 E H C w0 G0 w F st):Calls Tryz.prog 68 #[.pointer (some ⟨C.mb,3,none⟩)] w fun e w'=>e= .returned undef∧aC W0 E H C w0 G0 w' F {st with x:=⟨st.x.all,⟨0,0,0⟩⟩}:=
 (E5 C.mb _ _ _ 3 st.x.all st.x.last C.m w h.aB.met).mono fun _ _ ⟨h1,h2,h3⟩=>⟨h1,h.met h2 h3⟩
theorem Wr.refl (h:dY H N):Wr H [] [] N N:=⟨Like.refl N,rfl,⟨N.ents,by simp,by simp⟩,h,fun _=>rfl,fun _=>Nat.le_add_right _ _⟩
end
theorem tH.chain {W0:World}{E:Nat→Addr}{H:Nat→Nat}{C:fA}{w0:World}{G0:List Nat}{w w':World}{F:List Nat}{st:mK}(h:aC W0 E H C w0 G0 w F st)(k:tH W0 E H C w (C.foot F) st id w'):tH W0 E H C w0 G0 st id w'∧Mod (C.foot F) w w':=by
 obtain⟨A',v',F',a',aO,b',x',u,k1,k2,k3,k4,k5⟩:=k;exact⟨⟨A',v',F',a',aO,b',x',u,k1,k2,k3,h.chain k4,k5⟩,k4.mod⟩
end
section
variable {W0 w w0 : World} {E : Nat → Addr} {H : Nat → Nat} {C : fA} {F G0 : List Nat} {st : mK}
theorem aC.aside {w':World}{b:Nat}(hC:aC W0 E H C w0 G0 w F st)(hm:Mod [b] w w')(hb:b∉C.foot F)(h0:w0.heap.size≤b):aC W0 E H C w0 G0 w' F st:=by
 rw[aS]at hb;simp only[not_or]at hb
 have hd:∀q∈[b],q≠C.mb∧q∉C.s.blocks∧q∉F∧C.v.ownBlock≠some q:=fun q hq=>by rw[List.mem_singleton.1 hq];exact hb
 have hW:=hC.qy;refine⟨aZ.start (hC.aB.aB.mod hm (fun q hq dL=>(hd q dL).2.1 hq)) (hC.hp.zN hC.aB.pool hm (fun q hq dL=>(hd q dL).2.2.1 hq)) (hC.aB.met.mod hm (fun hq=>(hd _ hq).1 rfl)) (hC.aB.env.mod hm (fun q hq=>by rw[List.mem_singleton.1 hq];omega)) hC.aB.apart hC.aB.vQ,fV hC.row hm (fun k hk Ji=>(hd k Ji).2.2.2 hk),hC.AR,hC.pos,hC.kk,hC.mm,hC.qy,hC.sub,hC.mod.trans hm (fun _ hh _=>hh) (fun k hk hl=> ?_)⟩;rw[List.mem_singleton.1 hk]at hl;omega
def Xi (W0:World)(E:Nat→Addr)(H:Nat→Nat)(C:fA)(w0:World)(G0:List Nat)(F:List Nat)(st:mK)(key hash:Nat)(v:Value)(w':World):Prop:=
 ∃(id:Nat) (N:Nd) (o:Option ay) (x':bH),st.a.Ns[id]?=some N∧id=st.a.l.getD (dX hash st.a.d) 0∧fZ ⟨key,0,hash⟩ N.ents o∧v= .tuple #[aW (o.getD ⟨0,0,0⟩),.bool o.isSome,.int .u64 ((kR N.pfx N.au:Nat):Int)]∧aC W0 E H C w0 G0 w' F {st with x:=x'}∧dN ⟨st.x.all,⟨0,0,0⟩⟩ x' 192 0
theorem Ur (h:aC W0 E H C w0 G0 w F st)(hi:jf st.a st.ids [])(key hash:Nat)(h64:hash<18446744073709551616):Calls Tryz.prog 91 #[bL C.mb,.int .u64 (hash:Int),.int .u64 (key:Int)] w fun e w'=>∃v,e= .returned v∧Xi W0 E H C w0 G0 F st key hash v w':=by
 have hbd:=h.bounds;have sP:=qd hbd;obtain⟨N,hN,htp⟩:=hi.dir.at_ h64 hbd.1;obtain⟨id,hid⟩:∃id,id=st.a.l.getD (dX hash st.a.d) 0:=⟨_,rfl⟩;rw[←hid]at hN;have HN:=qd hN;have p8:=qd hid;have HC:=qd (h.below ((Below.refl w.heap.size w).alloc (Nat.le_refl _) (.cells #[.int .u64 0,.int .u64 0,.int .u64 0] 153)));have mP:=qd (aj.new w 153 #[.int .u64 0,.int .u64 0,.int .u64 0]);have Ii:=qd (show w0.heap.size≤w.heap.size from h.mod.size);have P9:=qd (show w.heap.size∉C.foot F from fun hq=>by have:=h.gJ _ hq;omega);clear h hi hbd hN hid htp;unfold bL;go_in;go_upto_region 1 with fail;refine dI (F:=fun v=>aC W0 E H C w0 G0 v F st∧aj v w.heap.size 153 #[.int .u64 0,.int .u64 0,.int .u64 0]) ⟨HC.out,mP.out⟩ ?_;clear HC mP;rintro w1 ⟨hC,hB⟩;obtain⟨bx,hbx⟩:∃bx,bx=w.heap.size:=⟨_,rfl⟩;rw[←hbx]at P9 Ii hB⊢;have hne:bx≠C.mb:=fun e=>P9.out (aS.2 (.inl e));have mJ:=qd hne;have HC:=qd hC;have mP:=qd hB;have nM:=qd (tJ hC.again);clear hC hB hbx hne;go_wp2_with fail;refine nM.out.mono ?_;rintro y w2 ⟨rfl,h2⟩;replace mP:=qd (mP.out.mod h2.mod P9.out);replace HC:=qd (HC.out.chain h2);clear h2 nM;have tK:=qd (AU HC.out hash id h64 p8.out.symm (bC HN.out));unfold bL aQ at tK;go_wp2_with fail;refine tK.out.mono ?_;rintro y w3 ⟨rfl,hb⟩;replace HC:=qd (HC.out.below hb);replace mP:=qB hb mP;clear hb tK;go_wp2_with fail;refine(nD (some ⟨C.mb,3,none⟩) w3).mono ?_;rintro y w4 ⟨rfl,hb⟩;replace HC:=qd (HC.out.below hb);replace mP:=qB hb mP;clear hb
 obtain⟨Fi,n1,n2,n3,n4,n5,n6⟩:=HC.out.node HN.out;have sV:=qd (ZG key hash n1 n2 HC.out.aB.met HC.out.aB.env HC.out.aB.vQ n3);have KY:=qd (show N.pfx<2^N.au∧N.au≤16 from⟨n2.pfx,by have:=n2.deep;omega⟩);clear n1 n2 n3 n4 n5 n6;unfold aQ at sV;unfold qg aW at sV;go_wp2_with fail;refine sV.out.mono ?_;rintro y w5 ⟨o,x5,rfl,ho,q3,q4,q5⟩;have HO:=qd ho;have jc:=qd q4;replace HC:=qd (HC.out.met q3 q5);replace mP:=qd (mP.out.mod q5 (fun hq=>mJ.out (List.mem_singleton.1 hq)));clear ho q3 q4 q5 sV;obtain⟨e0,he0⟩:∃e0:ay,e0=o.getD ⟨0,0,0⟩:=⟨_,rfl⟩;obtain⟨bs,hbs⟩:∃bs,bs=o.isSome:=⟨_,rfl⟩;rw[←he0,←hbs];have HE0:=qd he0;have HB0:=qd hbs;clear he0 hbs;have b:=mP.out.c3;have g:=mP.out.f3;have hnew:=((mP.out.ak 0 (.int .u64 (e0.key:Int))).ak 1 (.int .u64 (e0.val:Int))).ak 2 (.int .u64 (e0.hash:Int));have hm:=(((Mod.refl [bx] w5).sl 0 (.int .u64 (e0.key:Int))).sl 1 (.int .u64 (e0.val:Int))).sl 2 (.int .u64 (e0.hash:Int));simp only[pt]at hnew;have lq:=qd hnew;have Xj:=qd hm;clear hnew hm;go_upto_region 4 with fail;refine dI (F:=fun v=>aj v bx 153 #[.int .u64 (e0.key:Int),.int .u64 (e0.val:Int),.int .u64 (e0.hash:Int)]∧Mod [bx] w5 v) ⟨lq.out,Xj.out⟩ ?_;clear lq Xj;rintro w6 ⟨mG,nX⟩;replace HC:=qd (HC.out.aside nX P9.out Ii.out);replace mP:=qd mG;clear mG nX b g;obtain⟨Fi,n1,n2,n3,n4,n5,n6⟩:=HC.out.node HN.out;have kU:=qd (LA (HC.out.below (Below.refl w6.heap.size w6).drew|>.node HN.out|>.choose_spec|>.1));clear n1 n2 n3 n4 n5 n6;obtain⟨pf,hpf⟩:∃pf,pf=N.pfx:=⟨_,rfl⟩
 obtain⟨dp,hdp⟩:∃dp,dp=N.au:=⟨_,rfl⟩;rw[←hpf,←hdp]at kU;have hpw:=KY.out;rw[←hpf,←hdp]at hpw;obtain⟨hpl,hdl⟩:=hpw;have LJ:=qd hpf;have DK:=qd hdp;unfold aQ at kU;clear hpf hdp KY;have b:=mP.out.c3;refine rT (fun(w':World)=>w'.cell? ⟨bx,0,none⟩=some (.int .u64 (e0.key:Int))∧w'.cell? ⟨bx,1,none⟩=some (.int .u64 (e0.val:Int))∧w'.cell? ⟨bx,2,none⟩=some (.int .u64 (e0.hash:Int))) [] ?_;have hHeld:=(⟨b.1,b.2.1,b.2.2⟩:_∧_∧_);refine vT 0 rfl ?_;refine vW 1 rfl ?_;refine vW 2 rfl ?_;refine nT 3 rfl fun K hK=> ?_;go_simp;refine(kU.out).mono ?_;rintro y w7 ⟨rfl,hd7⟩;replace HC:=qd (HC.out.below ((Below.refl w6.heap.size w6).drew.drew));replace mP:=qd mP.out.drew.drew;rw[hd7]at HC mP;clear hd7 kU b;have b:=mP.out.c3;go_wp2_with fail;have hHeld:=(⟨b.1,b.2.1,b.2.2⟩:_∧_∧_);refine kO hK ?_;clear hK K;refine vW 4 rfl ?_;refine vW 5 rfl ?_;refine nT 6 rfl fun K hK=> ?_;go_simp;refine(SS pf dp hdl hpl w7).mono ?_;rintro y w8 ⟨rfl,rfl⟩;obtain⟨hg,hhg⟩:∃hg,hg=kR pf dp:=⟨_,rfl⟩;rw[←hhg];have HHg:=qd hhg;clear hhg;go_wp2_with fail;have hHeld:=(⟨b.1,b.2.1,b.2.2⟩:_∧_∧_);refine kO hK ?_;clear hK K;refine vW 7 rfl ?_;refine vW 8 rfl ?_;refine nT 9 rfl fun K hK=> ?_;go_simp;refine(Y4 (hg:Int) w7).mono ?_;rintro y w9 ⟨rfl,rfl⟩;go_wp2_with fail;have hHeld:=(⟨b.1,b.2.1,b.2.2⟩:_∧_∧_);refine kO hK ?_;clear hK K;refine nT 10 rfl fun K hK=> ?_;have g:=mP.out.f3;have hnew:=((mP.out.ak 0 (.int .u64 (e0.key:Int))).ak 1 (.int .u64 (e0.val:Int))).ak 2 (.int .u64 (e0.hash:Int))
 have hm:=(((Mod.refl [bx] w7).sl 0 (.int .u64 (e0.key:Int))).sl 1 (.int .u64 (e0.val:Int))).sl 2 (.int .u64 (e0.hash:Int));simp only[pt]at hnew;have lq:=qd hnew;have Xj:=qd hm;clear hnew hm;go_simp;refine dI (F:=fun v=>aj v bx 153 #[.int .u64 (e0.key:Int),.int .u64 (e0.val:Int),.int .u64 (e0.hash:Int)]∧Mod [bx] w7 v) ⟨lq.out,Xj.out⟩ ?_;clear lq Xj b g;rintro Wo ⟨mG,nX⟩;replace HC:=qd (HC.out.aside nX P9.out Ii.out);replace mP:=qd mG;clear mG nX;have b:=mP.out.c3;have hHeld:=(⟨b.1,b.2.1,b.2.2⟩:_∧_∧_);refine kO hK ?_;clear hK K;refine vW 11 rfl ?_;refine vW 12 rfl ?_;refine aT (by kernel_rfl) ?_ _;go_wp2;refine bodyPost_ret (v:= .tuple #[.agg #[.int .u64 (e0.key:Int),.int .u64 (e0.val:Int),.int .u64 (e0.hash:Int)],.bool bs,.int .u64 (hg:Int)]) (by simp[results,Tryz.results91,go_sem,b.1,b.2.1,b.2.2]) rfl ?_;have hfin:Xi W0 E H C w0 G0 F st key hash (.tuple #[.agg #[.int .u64 (e0.key:Int),.int .u64 (e0.val:Int),.int .u64 (e0.hash:Int)],.bool bs,.int .u64 (hg:Int)]) Wo:=⟨id,N,o,x5,HN.out,p8.out,HO.out,by rw[HE0.out,HB0.out,HHg.out,LJ.out,DK.out];rfl,HC.out,jc.out⟩
 first|exact⟨_,rfl,hfin⟩|exact hfin|exact⟨rfl,hfin⟩
end
section
variable {W0 w w0 : World} {E : Nat → Addr} {H : Nat → Nat} {C : fA} {F G0 : List Nat} {st : mK}
theorem Qa (h:aC W0 E H C w0 G0 w F st)(hi:jf st.a st.ids [])(e:ay)(he:mZ H e)(hk:∀y∈st.a.ents,y.key≠e.key)(hle:st.len<C.M)(hln:st.len=st.a.ents.length):Calls Tryz.prog 38 #[bL C.mb,.int .u64 (e.key:Int),.int .u64 (e.val:Int),.int .u64 (e.hash:Int)] w fun y w'=>y= .returned (.nilIface)∧∃id,Ef W0 E H C w0 G0 st id [] [e] (st.len+1) w':=by
 have h64:=he.h64;have dF:=qd he;have sV:=qd hln;have nM:=qd (tJ h);have hbd:=h.bounds;have sP:=qd hbd;have HI:=qd hi;obtain⟨N,hN,htp⟩:=hi.dir.at_ h64 hbd.1;have FI:=qd htp;obtain⟨id,hid⟩:∃id,id=st.a.l.getD (dX (e.hash) st.a.d) 0:=⟨_,rfl⟩;rw[←hid]at hN;have HN:=qd hN;have p8:=qd hid;clear hln he h hi hbd hN hid htp;unfold bL
 have hlt:(st.len:Int)<(C.M:Int):=by omega
 go_in;go_wp2_with fail;refine nM.out.mono ?_;rintro y w1 ⟨rfl,h1⟩;have HC:=qd h1;clear h1 nM;have tK:=qd (AU HC.out (e.hash) id h64 p8.out.symm (bC HN.out));unfold bL aQ at tK;go_wp2_with fail;refine tK.out.mono ?_;rintro y w2 ⟨rfl,hb⟩;replace HC:=qd (HC.out.below hb);clear hb tK;obtain⟨c0,c1,c11,c12,c13,c14,c15⟩:=HC.out.cells;go_upto_region 3 with fail;go_region;clear c0 c1 c11 c12 c13 c14 c15;replace HC:=qd (HC.out.below (Below.refl w2.heap.size w2).drew);go_wp2_with fail;refine(nD (some ⟨C.mb,3,none⟩) (World.drew w2)).mono ?_;rintro y w3 ⟨rfl,hb⟩;replace HC:=qd (HC.out.below hb);clear hb;obtain⟨Fi,n1,n2,n3,n4,n5,n6⟩:=HC.out.node HN.out;have hNe:∀y∈N.ents,y.key≠e.key:=fun y hy=>hk y (oZ.2 ⟨id,N,HN.out,hy⟩)
 have O5:N.ents.length+1≤192:=by
  obtain⟨B,B',b1,_⟩:=rV (N':=N) HN.out
  have h1:st.a.ents.length=(B++(N.ents++B')).length:=by unfold Pool.ents;rw[b1]
  rw[List.length_append,List.length_append]at h1;have h2:=HC.out.mm.2;have h3:=sV.out;omega
 have hsl:=HI.out.sl id N HN.out (by simp);have kE:=qd (Ub e n1 n2 dF.out FI.out HC.out.aB.met HC.out.aB.env HC.out.aB.vQ n3 hNe O5 hsl);have HX:=qd n6;have nJ:=qd (fun(N1:Nd) (hw:Wr H [] [e] N N1)=>P8 HI.out HN.out hw);clear n1 n2 n3 n4 n5 n6 hNe hk O5 hsl hlt;unfold aQ aW at kE;go_wp2_with fail;refine kE.out.mono ?_;rintro y w4 ⟨rfl,x4,N1,q1,q2,q3,q4,q5⟩;obtain⟨F4,LP⟩:=HX.out w4 Fi _ N1 x4 q1 q2.ok (fun q hq=> .inl hq) q3 q5 (fun q hq=>List.mem_cons.1 hq);have gP:=qd LP;have jc:=qd q4;have vY:=qd q2;clear LP q1 q2 q3 q4 q5 kE HX HC;obtain⟨c0,c1,c11,c12,c13,c14,c15⟩:=gP.out.cells;have f15:=gP.out.frozen 15;obtain⟨ln,hln⟩:∃ln,ln=st.len+1:=⟨_,rfl⟩;have afp:=gP.out.mm.2
 have hwr:IntKind.i64.wrap ((st.len:Int)+1)=(ln:Int):=by rw[IntKind.wrap_i64]<;>omega
 have oI:=qd hln;have p9:=qd (gP.out.acJ ln);clear hln;go_upto_region 10 with fail;refine dI (F:=fun v=>aC W0 E H C w0 G0 v F4 {st with a:={st.a with Ns:=st.a.Ns.set id N1},x:=x4,len:=ln}) p9.out ?_;rintro w6 Ee;clear c0 c1 c11 c12 c13 c14 c15 f15 gP p9 hwr;have p9:=qd Ee;have tY:=qd (wJ p9.out.again id N1 (by show(st.a.Ns.set id N1)[id]?=some N1;rw[mD (bC HN.out),if_pos rfl]) (nJ.out N1 vY.out));clear Ee nJ;unfold bL aQ at tY;go_wp2_with fail;refine tY.out.mono ?_;rintro y w7 ⟨rfl,hmt⟩;obtain⟨hmt,_⟩:=hmt.chain p9.out;have kD:=qd hmt;clear hmt tY p9;go_wp2;refine bodyPost_ret (v:= .nilIface) (by simp[results,Tryz.results38,go_sem]) rfl ⟨rfl,id, ?_⟩;rw[←oI.out];exact⟨N,N1,x4,HN.out,vY.out,jc.out,kD.out⟩
theorem GU (h:aC W0 E H C w0 G0 w F st)(hi:jf st.a st.ids [])(e:ay)(he:mZ H e)(e0:ay)(he0:e0∈st.a.ents)(hk:e0.key=e.key)(hle:st.len<C.M):Calls Tryz.prog 38 #[bL C.mb,.int .u64 (e.key:Int),.int .u64 (e.val:Int),.int .u64 (e.hash:Int)] w fun y w'=>y= .returned (.nilIface)∧∃id,Ef W0 E H C w0 G0 st id [e0] [{e0 with val:=e.val}] st.len w':=by
 have h64:=he.h64;have dF:=qd he;have OU:=qd he.hash;have nM:=qd (tJ h);have hbd:=h.bounds;have sP:=qd hbd;have HI:=qd hi;obtain⟨N,hN,htp⟩:=hi.dir.at_ h64 hbd.1;have FI:=qd htp;obtain⟨id,hid⟩:∃id,id=st.a.l.getD (dX (e.hash) st.a.d) 0:=⟨_,rfl⟩;rw[←hid]at hN;have HN:=qd hN;have p8:=qd hid;clear he h hi hbd hN hid htp;unfold bL
 have hlt:(st.len:Int)<(C.M:Int):=by omega
 go_in;go_wp2_with fail;refine nM.out.mono ?_;rintro y w1 ⟨rfl,h1⟩;have HC:=qd h1;clear h1 nM;have tK:=qd (AU HC.out (e.hash) id h64 p8.out.symm (bC HN.out));unfold bL aQ at tK;go_wp2_with fail;refine tK.out.mono ?_;rintro y w2 ⟨rfl,hb⟩;replace HC:=qd (HC.out.below hb);clear hb tK;obtain⟨c0,c1,c11,c12,c13,c14,c15⟩:=HC.out.cells;go_upto_region 3 with fail;go_region;clear c0 c1 c11 c12 c13 c14 c15;replace HC:=qd (HC.out.below (Below.refl w2.heap.size w2).drew);go_wp2_with fail;refine(nD (some ⟨C.mb,3,none⟩) (World.drew w2)).mono ?_;rintro y w3 ⟨rfl,hb⟩;replace HC:=qd (HC.out.below hb);clear hb;obtain⟨Fi,n1,n2,n3,n4,n5,n6⟩:=HC.out.node HN.out;have hNe:e0∈N.ents:=LM HI.out.dir sP.out.1 sP.out.2.2.2 (key:=e.key) (by rw[←OU.out];exact p8.out.symm) HN.out he0 hk;have kE:=qd (DX e true n1 n2 OU.out h64 dF.out.v64 HC.out.aB.met HC.out.aB.env HC.out.aB.vQ n3 e0 hNe hk);have HX:=qd n6;have nJ:=qd (fun(N1:Nd) (hw:Wr H [e0] [{e0 with val:=e.val}] N N1)=>P8 HI.out HN.out hw);clear n1 n2 n3 n4 n5 n6 hNe hk he0 hlt;unfold aQ aW at kE;go_wp2_with fail;refine kE.out.mono ?_;rintro y w4 ⟨rfl,x4,N1,q1,q2,q3,q4,q5⟩;obtain⟨F4,LP⟩:=HX.out w4 Fi _ N1 x4 q1 q2.ok (fun q hq=> .inl hq) q3 q5 (fun q hq=>List.mem_cons.1 hq);have gP:=qd LP;have jc:=qd q4;have vY:=qd q2;clear LP q1 q2 q3 q4 q5 kE HX HC;obtain⟨ln,hln⟩:∃ln,ln=st.len:=⟨_,rfl⟩;have oI:=qd hln;go_upto_region 10 with fail;obtain⟨w6,jL⟩:∃w6,w6=w4:=⟨_,rfl⟩;rw[←jL]
 have Ee:aC W0 E H C w0 G0 w6 F4 {st with a:={st.a with Ns:=st.a.Ns.set id N1},x:=x4,len:=ln}:=by rw[jL,hln];exact gP.out
 clear gP jL hln;have p9:=qd Ee;have tY:=qd (wJ p9.out.again id N1 (by show(st.a.Ns.set id N1)[id]?=some N1;rw[mD (bC HN.out),if_pos rfl]) (nJ.out N1 vY.out));clear Ee nJ;unfold bL aQ at tY;go_wp2_with fail;refine tY.out.mono ?_;rintro y w7 ⟨rfl,hmt⟩;obtain⟨hmt,_⟩:=hmt.chain p9.out;have kD:=qd hmt;clear hmt tY p9;go_wp2;refine bodyPost_ret (v:= .nilIface) (by simp[results,Tryz.results38,go_sem]) rfl ⟨rfl,id, ?_⟩;rw[←oI.out];exact⟨N,N1,x4,HN.out,vY.out,jc.out,kD.out⟩
theorem GV (h:aC W0 E H C w0 G0 w F st)(hi:jf st.a st.ids [])(e:ay)(he:mZ H e)(e0:ay)(he0:e0∈st.a.ents)(hk:e0.key=e.key)(hle:¬st.len<C.M):Calls Tryz.prog 38 #[bL C.mb,.int .u64 (e.key:Int),.int .u64 (e.val:Int),.int .u64 (e.hash:Int)] w fun y w'=>y= .returned (.nilIface)∧∃id,Ef W0 E H C w0 G0 st id [e0] [{e0 with val:=e.val}] st.len w':=by
 have h64:=he.h64;have dF:=qd he;have OU:=qd he.hash;have nM:=qd (tJ h);have hbd:=h.bounds;have sP:=qd hbd;have HI:=qd hi;obtain⟨N,hN,htp⟩:=hi.dir.at_ h64 hbd.1;have FI:=qd htp;obtain⟨id,hid⟩:∃id,id=st.a.l.getD (dX (e.hash) st.a.d) 0:=⟨_,rfl⟩;rw[←hid]at hN;have HN:=qd hN;have p8:=qd hid;clear he h hi hbd hN hid htp;unfold bL
 have hlt:¬(st.len:Int)<(C.M:Int):=by omega
 go_in;go_wp2_with fail;refine nM.out.mono ?_;rintro y w1 ⟨rfl,h1⟩;have HC:=qd h1;clear h1 nM;have tK:=qd (AU HC.out (e.hash) id h64 p8.out.symm (bC HN.out));unfold bL aQ at tK;go_wp2_with fail;refine tK.out.mono ?_;rintro y w2 ⟨rfl,hb⟩;replace HC:=qd (HC.out.below hb);clear hb tK;obtain⟨c0,c1,c11,c12,c13,c14,c15⟩:=HC.out.cells;go_upto_region 3 with fail;go_region;clear c0 c1 c11 c12 c13 c14 c15;replace HC:=qd (HC.out.below (Below.refl w2.heap.size w2).drew);go_wp2_with fail;refine(nD (some ⟨C.mb,3,none⟩) (World.drew w2)).mono ?_;rintro y w3 ⟨rfl,hb⟩;replace HC:=qd (HC.out.below hb);clear hb;obtain⟨Fi,n1,n2,n3,n4,n5,n6⟩:=HC.out.node HN.out;have hNe:e0∈N.ents:=LM HI.out.dir sP.out.1 sP.out.2.2.2 (key:=e.key) (by rw[←OU.out];exact p8.out.symm) HN.out he0 hk;have kE:=qd (DX e false n1 n2 OU.out h64 dF.out.v64 HC.out.aB.met HC.out.aB.env HC.out.aB.vQ n3 e0 hNe hk);have HX:=qd n6;have nJ:=qd (fun(N1:Nd) (hw:Wr H [e0] [{e0 with val:=e.val}] N N1)=>P8 HI.out HN.out hw);clear n1 n2 n3 n4 n5 n6 hNe hk he0 hlt;unfold aQ aW at kE;go_wp2_with fail;refine kE.out.mono ?_;rintro y w4 ⟨rfl,x4,N1,q1,q2,q3,q4,q5⟩;obtain⟨F4,LP⟩:=HX.out w4 Fi _ N1 x4 q1 q2.ok (fun q hq=> .inl hq) q3 q5 (fun q hq=>List.mem_cons.1 hq);have gP:=qd LP;have jc:=qd q4;have vY:=qd q2;clear LP q1 q2 q3 q4 q5 kE HX HC;obtain⟨ln,hln⟩:∃ln,ln=st.len:=⟨_,rfl⟩;have oI:=qd hln;go_upto_region 10 with fail;obtain⟨w6,jL⟩:∃w6,w6=w4:=⟨_,rfl⟩;rw[←jL]
 have Ee:aC W0 E H C w0 G0 w6 F4 {st with a:={st.a with Ns:=st.a.Ns.set id N1},x:=x4,len:=ln}:=by rw[jL,hln];exact gP.out
 clear gP jL hln;have p9:=qd Ee;have tY:=qd (wJ p9.out.again id N1 (by show(st.a.Ns.set id N1)[id]?=some N1;rw[mD (bC HN.out),if_pos rfl]) (nJ.out N1 vY.out));clear Ee nJ;unfold bL aQ at tY;go_wp2_with fail;refine tY.out.mono ?_;rintro y w7 ⟨rfl,hmt⟩;obtain⟨hmt,_⟩:=hmt.chain p9.out;have kD:=qd hmt;clear hmt tY p9;go_wp2;refine bodyPost_ret (v:= .nilIface) (by simp[results,Tryz.results38,go_sem]) rfl ⟨rfl,id, ?_⟩;rw[←oI.out];exact⟨N,N1,x4,HN.out,vY.out,jc.out,kD.out⟩
theorem J5 (h:aC W0 E H C w0 G0 w F st)(hi:jf st.a st.ids [])(e:ay)(he:mZ H e)(e0:ay)(he0:e0∈st.a.ents)(hk:e0.key=e.key):Calls Tryz.prog 38 #[bL C.mb,.int .u64 (e.key:Int),.int .u64 (e.val:Int),.int .u64 (e.hash:Int)] w fun y w'=>y= .returned (.nilIface)∧∃id,Ef W0 E H C w0 G0 st id [e0] [{e0 with val:=e.val}] st.len w':=by
 by_cases hle:st.len<C.M
 ·exact GU h hi e he e0 he0 hk hle
 ·exact GV h hi e he e0 he0 hk hle
theorem MS (h:aC W0 E H C w0 G0 w F st)(hi:jf st.a st.ids [])(e:ay)(he:mZ H e)(hk:∀y∈st.a.ents,y.key≠e.key)(hle:¬st.len<C.M):Calls Tryz.prog 38 #[bL C.mb,.int .u64 (e.key:Int),.int .u64 (e.val:Int),.int .u64 (e.hash:Int)] w fun y w'=>y= .returned (jV E 2)∧∃x',aC W0 E H C w0 G0 w' F {st with x:=x'}∧dN ⟨st.x.all,⟨0,0,0⟩⟩ x' 128 0:=by
 have h64:=he.h64;have dF:=qd he;have nM:=qd (tJ h);have hbd:=h.bounds;have sP:=qd hbd;have HI:=qd hi;obtain⟨N,hN,htp⟩:=hi.dir.at_ h64 hbd.1;have FI:=qd htp;obtain⟨id,hid⟩:∃id,id=st.a.l.getD (dX (e.hash) st.a.d) 0:=⟨_,rfl⟩;rw[←hid]at hN;have HN:=qd hN;have p8:=qd hid;clear he h hi hbd hN hid htp;unfold bL
 have hlt:¬(st.len:Int)<(C.M:Int):=by omega
 go_in;go_wp2_with fail;refine nM.out.mono ?_;rintro y w1 ⟨rfl,h1⟩;have HC:=qd h1;clear h1 nM;have tK:=qd (AU HC.out (e.hash) id h64 p8.out.symm (bC HN.out));unfold bL aQ at tK;go_wp2_with fail;refine tK.out.mono ?_;rintro y w2 ⟨rfl,hb⟩;replace HC:=qd (HC.out.below hb);clear hb tK;obtain⟨c0,c1,c11,c12,c13,c14,c15⟩:=HC.out.cells;go_upto_region 3 with fail;go_region;clear c0 c1 c11 c12 c13 c14 c15;replace HC:=qd (HC.out.below (Below.refl w2.heap.size w2).drew);go_wp2_with fail;refine(nD (some ⟨C.mb,3,none⟩) (World.drew w2)).mono ?_;rintro y w3 ⟨rfl,hb⟩;replace HC:=qd (HC.out.below hb);clear hb;obtain⟨Fi,n1,n2,n3,n4,n5,n6⟩:=HC.out.node HN.out;have hNe:∀y∈N.ents,y.key≠e.key:=fun y hy=>hk y (oZ.2 ⟨id,N,HN.out,hy⟩);have Vj:=Q6 e n1 n2 dF.out.hash h64 HC.out.aB.met HC.out.aB.env HC.out.aB.vQ n3 hNe;rw[jH E (by omega)]at Vj;have kE:=qd Vj;clear Vj n1 n2 n3 n4 n5 n6 hNe hk;unfold aQ aW at kE;go_wp2_with fail;refine kE.out.mono ?_;rintro y w4 ⟨rfl,x4,q3,q4,q5⟩;have gP:=qd (HC.out.met q3 q5);have jc:=qd q4;clear q3 q4 q5 kE HC;have ce:w4.cell? ⟨1,0,none⟩=some (.iface 379 (.pointer (some (E 2)))):=gP.out.aB.env.errs.at_ 2 (by omega) (by omega);have ND:=qd (Rs (E 2) w4);go_wp2_with fail;refine ND.out.mono ?_;rintro y w5 ⟨rfl,rfl⟩;go_wp2_with fail;refine(DC w4).mono ?_;rintro y w5 ⟨rfl,rfl⟩;go_wp2
 refine bodyPost_ret (v:= .iface 379 (.pointer (some (E 2)))) (by simp[results,Tryz.results38,go_sem]) rfl ⟨?_,x4,gP.out,jc.out⟩;rw[jH E (by omega)]
end
def nd0:Nd:=⟨0,0,0,0,dM 1 1,.idle⟩
def nu:Pool:=⟨[nd0],0,[0],none⟩
theorem acQ (H:Nat→Nat):dY H nd0:=by
 obtain⟨h1,h2,h3⟩:=JR (n:=1) (.inl rfl)
 have hE:nd0.ents=[]:=by unfold Nd.ents nd0;rw[h2];rfl
 refine⟨h1,Nat.zero_le _,.inl rfl,by decide,Nat.zero_le _,by rw[hE];exact List.nodup_nil,fun e he=>(by rw[hE]at he;cases he),by rw[hE];exact Nat.zero_le _,rfl, ?_⟩;show load (dM 1 1)≤_;rw[h3];exact Nat.zero_le _
theorem adz:nu.ents=[]:=by
 obtain⟨h1,h2,h3⟩:=JR (n:=1) (.inl rfl)
 have hE:nd0.ents=[]:=by unfold Nd.ents nd0;rw[h2];rfl
 unfold Pool.ents nu;simp[hE]
theorem inv0:jf nu [] []:=by
 have hget:∀(i:Nat) (N:Nd),nu.Ns[i]?=some N→i=0∧N=nd0:=fun i N hN=>by
  have h1:i<1:=bC hN
  obtain rfl:i=0:=by omega
  exact⟨rfl,(Option.some.inj hN).symm⟩
 refine⟨⟨fun i N hN=> ?_,fun j hj=> ?_,fun i N j hN hj hp=> ?_,rfl,fun i N hN hb=> ?_,fun c hc=>by cases hc⟩,fun id=> ?_,List.nodup_nil,List.nodup_nil,fun i hi=>(by cases hi),fun i hi=>(by cases hi),fun i hi=>(by cases hi),fun i N hN _=> ?_⟩
 ·obtain⟨_,rfl⟩:=hget i N hN;exact⟨Nat.le_refl _,by decide⟩
 ·have h1:j<1:=hj
  obtain rfl:j=0:=by omega
  exact⟨nd0,rfl,rfl⟩
 ·obtain⟨rfl,rfl⟩:=hget i N hN;have h1:j<1:=hj
  obtain rfl:j=0:=by omega
  rfl
 ·obtain⟨_,rfl⟩:=hget i N hN;cases hb
 ·constructor
  ·rintro(⟨N,h1,h2⟩|⟨_,_,c,h3⟩)
   ·obtain⟨_,rfl⟩:=hget id N h1;cases h2
   ·cases h3
  ·rintro(h|h)<;>cases h
 ·obtain⟨_,rfl⟩:=hget i N hN;rfl
def o7 (K M I db sb vb:Nat):Array Value:= #[.int .i64 (K:Int),.int .i64 (M:Int),.int .i64 (I:Int),.int .i64 0,.int .i64 0,.int .i64 0,.int .i64 0,.int .i64 0,.int .i64 0,.bool false,.int .i64 0,.slice (some ⟨vb,0,none⟩) 1 1,.pointer (some ⟨db,0,none⟩),.pointer none,.pointer (some ⟨sb,0,none⟩),.int .i64 0]
def st0:mK:=⟨nu,[],0,0,zK⟩
def yQ (nb db eb:Nat):bY:=⟨fun _=>nb,db,eb,0,0,0⟩
theorem aC.fresh {W0:World}{E:Nat→Addr}(H:Nat→Nat){w w5:World}{nb tb gb db eb sb qb rb jb vb K M I:Nat}(hE:Env W0 E w)(hK:1≤K∧K≤64)(hM:1≤M∧M≤192)(hb:Below w.heap.size w w5)(hN:bK w5 nb [nb,tb,gb] nd0)(hD:cu w5 db eb 0 [0])(hS:dS w5 sb qb rb jb (K:Int) 0 (yQ nb db eb).val [])
  (hR:w5.ownsRow W0.heap.size 116 1 (.slice (some ⟨vb,0,none⟩) 1 1) 1 [.pointer (some ⟨nb,0,none⟩)]) (hlow:∀q∈[nb,tb,gb,db,eb,sb,qb,rb,jb,vb],w.heap.size≤q) (hap:∀q∈[nb,tb,gb],q∉[db,eb,sb,qb,rb,jb,vb]) (acR:∀q∈[db,eb],q∉[sb,qb,rb,jb,vb]) (aer:∀q∈[sb,qb,rb,jb],q≠vb):
  ∃F,aC W0 E H ⟨w5.heap.size,sb,qb,rb,jb,yQ nb db eb,.slice (some ⟨vb,0,none⟩) 1 1,K,M,I,0⟩ w [] (w5.alloc (.cells (o7 K M I db sb vb) 128)) F st0:=by
 have hb6:Below w5.heap.size w5 (w5.alloc (.cells (o7 K M I db sb vb) 128)):=(Below.refl _ _).alloc (Nat.le_refl _) _;have nX:=Mod.of_below hb6 [];have hz:=hb.size;have hzW:=hE.size;have hvl:=(hR.lt vb rfl).2;have Ry:=hN.gJ;have hSl:=hS.lt
 have adA:∀(i:Nat) (N:Nd),[nd0][i]?=some N→i=0∧N=nd0:=fun i N hh=>by
  have h1:i<1:=bC hh
  obtain rfl:i=0:=by omega
  exact⟨rfl,(Option.some.inj hh).symm⟩
 have hfp:∀q,q∈gN (yQ nb db eb) (fun _=> [nb,tb,gb]) nu↔q∈[nb,tb,gb,db,eb]:=fun q=>by
  rw[aK];constructor
  ·rintro(⟨i,_,hq⟩|hq)
   ·simp at hq⊢;omega
   ·unfold bY.dV yQ nu at hq;simp at hq⊢;omega
  ·intro hq;by_cases h1:q∈[nb,tb,gb]
   ·exact .inl ⟨0,by decide,h1⟩
   ·refine .inr ?_;unfold bY.dV yQ nu;simp at hq h1⊢;omega
 have adB:iO W0 w5.heap.size H (yQ nb db eb) (w5.alloc (.cells (o7 K M I db sb vb) 128)) (fun _=> [nb,tb,gb]) nu:=by
  refine⟨fun i N hi=> ?_,hD.mod nX (by simp) (by simp),fun next lf hc=>(by cases hc),fun i j hi hj hij=> ?_,fun i hi q hq hq2=> ?_,fun q hq=> ?_,fun hq=> ?_,by decide⟩
  ·obtain⟨_,rfl⟩:=adA i N hi;exact⟨hN.mod nX (by simp),acQ H⟩
  ·have h1:i<1:=hi;have h2:j<1:=hj;omega
  ·unfold bY.dV yQ nu at hq2;exact hap q hq (by simp at hq2⊢;omega)
  ·have h1:=(hfp q).1 hq;have:=hlow q (by simp at h1⊢;omega);omega
  ·have h1:=(hfp _).1 hq;simp at h1;have h2:=hD.lt;have h3:=hD.Li;have h4:=Ry nb (by simp);have h5:=Ry tb (by simp);have h6:=Ry gb (by simp);omega
 have hmet:aP (w5.alloc (.cells (o7 K M I db sb vb) 128)) (cmp ⟨w5.heap.size,sb,qb,rb,jb,yQ nb db eb,.slice (some ⟨vb,0,none⟩) 1 1,K,M,I,0⟩ st0) zK:=⟨rfl,aj.new w5 128 (o7 K M I db sb vb)⟩;have hsb:∀q∈[sb,qb,rb,jb],q<w5.heap.size:=hSl;refine⟨gN (yQ nb db eb) (fun _=> [nb,tb,gb]) nu,aZ.start (hS.mod nX (by simp)) ⟨_,rfl,adB⟩ hmet (hE.mod ((Mod.of_below hb []).then nX) (by simp)) (fun q hq=>⟨fun hqF=> ?_, ?_, ?_⟩) (by show W0.heap.size≤w5.heap.size;omega),hR.alloc _,fun g hg hq=> ?_,by decide,hK,hM,hzW,fun q hq=> ?_,(Mod.of_below hb []).then nX⟩
 ·have hq':q∈[sb,qb,rb,jb]:=hq;have h1:=(hfp q).1 hqF;by_cases h2:q∈[nb,tb,gb]
  ·exact hap q h2 (by simp at hq'⊢;omega)
  ·exact acR q (by simp at h1 h2⊢;omega) (by simp at hq'⊢;omega)
 ·have:=hsb q hq;show q≠w5.heap.size;omega
 ·have hq':q∈[sb,qb,rb,jb]:=hq;have:=hlow q (by simp at hq'⊢;omega);omega
 ·have hg':g=vb:=by simpa using(Option.some.inj hg).symm
  subst hg'
  have hq':g=w5.heap.size∨g∈[sb,qb,rb,jb]∨g∈gN (yQ nb db eb) (fun _=> [nb,tb,gb]) nu:=by
   rcases List.mem_cons.1 hq with h3|h3
   ·exact .inl h3
   ·exact .inr (List.mem_append.1 h3)
  rcases hq' with h1|h1|h1
  ·omega
  ·exact aer g h1 rfl
  ·have h2:=(hfp g).1 h1;by_cases h3:g∈[nb,tb,gb]
   ·exact hap g h3 (by simp)
   ·exact acR g (by simp at h2 h3⊢;omega) (by simp)
 ·right;rcases aS.1 hq with h1|h1|h1|h1
  ·have h2:q=w5.heap.size:=h1;omega
  ·have h2:q∈[sb,qb,rb,jb]:=h1;exact hlow q (by simp at h2⊢;omega)
  ·have h2:=(hfp q).1 h1;exact hlow q (by simp at h2⊢;omega)
  ·have h2:q=vb:=by simpa using(Option.some.inj h1).symm
   exact hlow q (by simp[h2])
def aes (Ns:List Nd)(i:Nat):Nat:=((Ns.take i).map Nd.groups).sum
section
variable {W0 w : World} {E : Nat → Addr}
def NewAt (W0:World)(E:Nat→Addr)(H:Nat→Nat)(K M:Nat)(w:World)(mb:Nat)(w':World):Prop:=∃(C:fA) (F:List Nat),C.mb=mb∧C.K=K∧C.M=M∧aC W0 E H C w [] w' F st0
theorem ZY (H:Nat→Nat)(hE:Env W0 E w)(k m i:Int)(hcf:uV k m i=true)(K M I:Nat)(hkm:(1≤K∧K≤64)∧(1≤M∧M≤192)∧k=(K:Int)∧m=(M:Int)∧i=(I:Int)):Calls Tryz.prog 28 #[je k m i] w fun e w'=>∃mb,e= .returned (.tuple #[bL mb,.nilIface])∧NewAt W0 E H K M w mb w':=by
 have Jf:=qd hkm;clear hkm;have HEr:=qd hE;have hB0:=aj.new w 23 #[.int .i64 k,.int .i64 m,.int .i64 i];have hb0:=(Below.refl w.heap.size w).alloc (Nat.le_refl _) (.cells #[.int .i64 k,.int .i64 m,.int .i64 i] 23);unfold je;go_in;go_upto_region 1 with fail;refine dI (F:=fun v=>aj v w.heap.size 23 #[.int .i64 k,.int .i64 m,.int .i64 i]∧Below w.heap.size w v) ⟨hB0,hb0⟩ ?_;clear hB0 hb0;rintro w1 ⟨hB1,hb1⟩;obtain⟨bx,hbx⟩:∃bx,bx=w.heap.size:=⟨_,rfl⟩;rw[←hbx]at hB1⊢;have mP:=qd hbx;have HB:=qd hB1;have Eh:=qd (hE.mod (Mod.of_below hb1 []) (by simp));have nK:=qd hb1;obtain⟨k0,k1,k2⟩:=hB1.c3;have Xk:=qd (wW k m i w1 Eh.out.errs);rw[hcf]at Xk;simp only[if_true]at Xk;unfold je at Xk;have hz1:=hb1.size;have agt:=HB.out.lt;clear hB1 hb1 hE hbx;go_wp2_with fail;refine Xk.out.mono ?_;rintro y w2 ⟨rfl,hb2⟩;replace HB:=qB hb2 HB;replace nK:=qd (yG nK.out hb2);replace Eh:=qB hb2 Eh;have hz2:=hb2.size;clear hb2 Xk k0 k1 k2;go_wp2_with fail;refine(Zq w2).mono ?_;rintro y w3 ⟨nb,tb,gb,rfl,hn1,hn2,⟨l1,l2,l3,l4,l5⟩,hb3⟩;have HN:=qd (show bK w3 nb [nb,tb,gb] nd0 from⟨tb,gb,hn1,hn2,rfl,l4,l5⟩);replace HB:=qB hb3 HB;replace nK:=qd (yG nK.out hb3);replace Eh:=qB hb3 Eh;have hz3:=hb3.size;have l6:=hn2.ne;have hnl:=HN.out.gJ;have agu:=hnl nb (by simp);have agv:=hnl tb (by simp);have agw:=hnl gb (by simp);clear hb3 hn1 hn2 hnl;unfold aQ;have HDn:=qd (show Calls Tryz.prog 55 #[.int .i64 0] w3 _ from RP 0 (by omega) w3);unfold iC at HDn
 go_wp2_with fail;refine HDn.out.mono ?_;rintro y w4 ⟨rfl,hd4,hb4⟩;have HD:=qd (show cu w4 (w3.heap.size+1) w3.heap.size 0 [0]from hd4);replace HN:=qd (HN.out.mod (Mod.of_below hb4 []) (by simp));replace HB:=qB hb4 HB;replace nK:=qd (yG nK.out hb4);replace Eh:=qB hb4 Eh;have hz4:=hb4.size;have aeu:=HD.out.lt;have aev:=HD.out.Li;obtain⟨db,hdb⟩:∃db,db=w3.heap.size+1:=⟨_,rfl⟩;obtain⟨eb,KZ⟩:∃eb,eb=w3.heap.size:=⟨_,rfl⟩;rw[←hdb,←KZ]at HD;rw[←hdb];rw[←hdb]at aeu;rw[←KZ]at aev;have oU:=qd hdb;have rG:=qd KZ;clear hb4 hd4 HDn hdb KZ;have kk:=HB.out.c3;have dW:=qd (WO k (by have:=Jf.out;omega) (yQ nb db eb).val w4 Eh.out.errs);unfold eO at dW;go_wp2_with fail;refine dW.out.mono ?_;rintro y w5 ⟨sb,qb,rb,jb,rfl,hs5,hsl,hb5⟩;have HS:=qd hs5;replace HN:=qd (HN.out.mod (Mod.of_below hb5 []) (by simp));replace HD:=qB hb5 HD;replace HB:=qB hb5 HB;replace nK:=qd (yG nK.out hb5);replace Eh:=qB hb5 Eh;have hz5:=hb5.size;have HSl:=qd hsl;clear kk hb5 hs5 dW hsl;have kk:=HB.out.c3;go_wp2;have hrow:=World.ownsRow_lit (base:=W0.heap.size) (e:=116) (size:=1) w5 #[.pointer (some ⟨nb,0,none⟩)] 1 (by have:=Eh.out.size;omega) (by decide) rfl;have hb6:Below w5.heap.size w5 (w5.alloc (.cells #[.pointer (some ⟨nb,0,none⟩)] 116)):=(Below.refl _ _).alloc (Nat.le_refl _) _;have nX:=Mod.of_below hb6 [];have hsl:=HSl.out;have hd1:=oU.out;have hd2:=rG.out;have s1:=hsl sb (by simp);have s2:=hsl qb (by simp);have s3:=hsl rb (by simp);have s4:=hsl jb (by simp);have hslt:=HS.out.lt
 have t1:=hslt sb (by simp);have t2:=hslt qb (by simp);have t3:=hslt rb (by simp);have t4:=hslt jb (by simp);have agx:=mP.out
 obtain⟨F,hF⟩:=aC.fresh H (w:=w) (w5:=w5.alloc (.cells #[.pointer (some ⟨nb,0,none⟩)] 116)) (nb:=nb) (tb:=tb) (gb:=gb) (db:=db) (eb:=eb) (sb:=sb) (qb:=qb) (rb:=rb) (jb:=jb) (vb:=w5.heap.size) (K:=K) (M:=M) (I:=I) HEr.out Jf.out.1 Jf.out.2.1 (yG nK.out hb6) (HN.out.mod nX (by simp)) (HD.out.mod nX (by simp) (by simp)) (Jf.out.2.2.1▸HS.out.mod nX (by simp)) hrow
  (by intro q hq;simp at hq;omega) (by intro q hq;simp at hq⊢;omega) (by intro q hq;simp at hq⊢;omega) (by intro q hq;simp at hq;omega)
 have hkk:=Jf.out.2.2
 have hq:o7 K M I db sb w5.heap.size= #[.int .i64 k,.int .i64 m,.int .i64 i,.int .i64 0,.int .i64 0,.int .i64 0,.int .i64 0,.int .i64 0,.int .i64 0,.bool false,.int .i64 0,.slice (some ⟨w5.heap.size,0,none⟩) 1 1,.pointer (some ⟨db,0,none⟩),.pointer none,.pointer (some ⟨sb,0,none⟩),.int .i64 0]:=by
  unfold o7;rw[hkk.1,hkk.2.1,hkk.2.2]
 rw[hq]at hF;refine bodyPost_ret (v:= .tuple #[.pointer (some ⟨w5.heap.size+1,0,none⟩),.nilIface]) (by simp[results,Tryz.results28,go_sem]) rfl ⟨w5.heap.size+1,rfl,⟨_,F, ?_,rfl,rfl,hF⟩⟩;simp
end
section
variable {α : Type} {id : Nat} {W0 w : World} {E : Nat → Addr}
def agy {α:Type}(left:α→Nat→Nat)(a:α)(ids:List Nat):Nat:=(ids.map (left a)).sum
def Qb (l:Lit→Bool)(rem:List Nat):Prop:=∀x:Int,(Lit.int .i64 x).wf=true→(l (.int .i64 x)=true↔∃id∈rem,x=(id:Int))
theorem Qb.next {l:Lit→Bool}{rem:List Nat}(h:Qb l rem)(hn:rem.Nodup):Qb (fun z=>l z && !z.sameKey (.int .i64 (id:Int))) (rem.erase id):=fun x hx=>by
 have hk:(Lit.int .i64 x).sameKey (.int .i64 (id:Int))=decide (x=(id:Int)):=by simp[Lit.sameKey]
 show(l (.int .i64 x) && !(Lit.int .i64 x).sameKey (.int .i64 (id:Int)))=true↔_;rw[hk,Bool.and_eq_true,h x hx];constructor
 ·rintro⟨⟨j,hj,rfl⟩,h2⟩
  have h3:¬(j:Int)=(id:Int):=by simpa using h2
  exact⟨j,(List.mem_erase_of_ne (fun e=>h3 (by rw[e]))).2 hj,rfl⟩
 ·rintro⟨j,hj,rfl⟩;rw[hn.mem_erase_iff]at hj;have h3:¬(j:Int)=(id:Int):=fun e=>hj.1 (by omega);exact⟨⟨j,hj.2,rfl⟩,by simpa using h3⟩
end
end Go.Proofs.YtgiaobmcbbfmnaaGreatDoor
