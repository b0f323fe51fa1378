/- A core's Get, Put, Delete by their contracts. -/
import Derived.Test.YthfgacnlojmmfaaGreatDoorCoCN
import Derived.Test.YthfgacnlojmmfaaGreatDoorCoN
import Derived.Test.YthfgacnlojmmfaaGreatDoorLaneP
import Derived.Test.YthfgacnlojmmfaaGreatDoorCoBQ
namespace Go.Proofs.YthfgacnlojmmfaaGreatDoor
set_option maxRecDepth 100000
set_option maxHeartbeats 4000000
open Go.RowKit AmC Go.Maps
section
variable {a : Pool} {e : Ent} {id key : Nat} {N : Nd}
theorem pool_nodup {H:Nat→Nat}(hd:DirOk a)(h5:a.d≤5)(ho:∀(i:Nat) (N:Nd),a.Ns[i]?=some N→NOk H N):(a.ents.map Ent.key).Nodup:=by
 unfold Pool.ents;rw[List.map_flatMap];unfold List.Nodup;rw[List.pairwise_flatMap];refine⟨fun N hN=> ?_, ?_⟩
 ·obtain⟨i,hi⟩:=List.getElem?_of_mem hN;exact(ho i N hi).keys
 ·rw[List.pairwise_iff_getElem];intro i j hi hj hij x hx y hy hxy;obtain⟨e,he,rfl⟩:=List.mem_map.1 hx;obtain⟨e',he',rfl⟩:=List.mem_map.1 hy;have g1:a.Ns[i]?=some a.Ns[i]:=List.getElem?_eq_getElem hi;have g2:a.Ns[j]?=some a.Ns[j]:=List.getElem?_eq_getElem hj;obtain⟨k1,k2⟩:=(ho _ _ g1).hash e he;obtain⟨k3,k4⟩:=(ho _ _ g2).hash e' he'
  have hh:e.hash=e'.hash:=by rw[k1.hash,k3.hash,hxy]
  have a1:=hd.is_ k1.h64 h5 g1 k2;have a2:=hd.is_ k3.h64 h5 g2 k4;rw[hh,a2]at a1;omega
theorem mem_pool:e∈a.ents↔∃(i:Nat) (N:Nd),a.Ns[i]?=some N∧e∈N.ents:=by
 unfold Pool.ents;rw[List.mem_flatMap];constructor
 ·rintro⟨N,h1,h2⟩;obtain⟨i,hi⟩:=List.getElem?_of_mem h1;exact⟨i,N,hi,h2⟩
 ·rintro⟨i,N,h1,h2⟩;exact⟨N,List.mem_of_getElem? h1,h2⟩
theorem pool_node {H:Nat→Nat}(hd:DirOk a)(h5:a.d≤5)(ho:∀(i:Nat) (N:Nd),a.Ns[i]?=some N→NOk H N)(hid:a.l.getD (topOf (H key) a.d) 0=id)(hN:a.Ns[id]?=some N)(he:e∈a.ents)(hk:e.key=key):e∈N.ents:=by
 obtain⟨j,M,h1,h2⟩:=mem_pool.1 he;obtain⟨k1,k2⟩:=(ho j M h1).hash e h2;have:=hd.is_ k1.h64 h5 h1 k2;rw[k1.hash,hk,hid]at this;subst this;rw[hN]at h1;cases h1;exact h2
theorem wr_pre {H:Nat→Nat}{ids:List Nat}{N1:Nd}{del add:List Ent}(h:CInv a ids [])(hN:a.Ns[id]?=some N)(hw:Wr H del add N N1):CPre {a with Ns:=a.Ns.set id N1} ids id:=by
 have hid:=get_lt hN;have hget:=set_get (N':=N1) hid;have hL:=hw.like;refine⟨h.dir.alike hN hL.pfx hL.dpt (fun hb hk=>h.dir.split id N hN (by rw[←hL.busy];exact hb) (by rw[←hL.kind];exact hk)),fun j=> ?_,h.nd,fun j hj=> ?_,fun i X hX hi=> ?_⟩
 ·have:=h.can_ j;simp only[List.not_mem_nil,or_false]at this;rw[←this];unfold Pool.can;simp only;rw[hget];by_cases hj:j=id
  ·subst hj;rw[if_pos rfl,hN];simp[hL.busy]
  ·rw[if_neg hj]
 ·have:=h.some_ j hj;unfold Pool.left at this⊢;simp only;rw[hget];by_cases hj2:j=id
  ·subst hj2;rw[if_pos rfl];rw[hN]at this;show 1≤N1.left;rw[hw.left];exact this
  ·rw[if_neg hj2];exact this
 ·have hX':(a.Ns.set id N1)[i]?=some X:=hX;rw[hget,if_neg hi]at hX';exact h.sl i X hX' (by simp)
def WrPost (W0:World)(E:Nat→Addr)(H:Nat→Nat)(C:CPl)(w0:World)(G0:List Nat)(st:CSt)(id:Nat)(del add:List Ent)(len':Nat)(w':World):Prop:=
 ∃(N N1:Nd) (x1:Mtr),st.a.Ns[id]?=some N∧Wr H del add N N1∧Cost ⟨st.x.all,⟨0,0,0⟩⟩ x1 128 0∧MtPost W0 E H C w0 G0 {st with a:={st.a with Ns:=st.a.Ns.set id N1},len:=len',x:=x1} id w'
section
variable {W0 : World} {E : Nat → Addr} {H : Nat → Nat} {C : CPl} {w0 : World} {G0 : List Nat} {w w' : World} {F : List Nat} {st : CSt}
theorem core_Reset (h:CoreF W0 E H C w0 G0 w F st):Calls Tryz.prog 71 #[.pointer (some ⟨C.mb,3,none⟩)] w fun e w'=>e= .returned undef∧CoreF W0 E H C w0 G0 w' F {st with x:=⟨st.x.all,⟨0,0,0⟩⟩}:=
 (meter_Reset C.mb _ _ _ 3 st.x.all st.x.last C.m w h.sch.met).mono fun _ _ ⟨h1,h2,h3⟩=>⟨h1,h.met h2 h3⟩
theorem Wr.refl (h:NOk H N):Wr H [] [] N N:=⟨Like.refl N,rfl,⟨N.ents,by simp,by simp⟩,h,fun _=>rfl,fun _=>Nat.le_add_right _ _⟩
end
theorem MtPost.chain {W0:World}{E:Nat→Addr}{H:Nat→Nat}{C:CPl}{w0:World}{G0:List Nat}{w w':World}{F:List Nat}{st:CSt}(h:CoreF W0 E H C w0 G0 w F st)(k:MtPost W0 E H C w (C.foot F) st id w'):MtPost W0 E H C w0 G0 st id w'∧Mod (C.foot F) w w':=by
 obtain⟨A',v',F',a',ids',b',x',u,k1,k2,k3,k4,k5⟩:=k;exact⟨⟨A',v',F',a',ids',b',x',u,k1,k2,k3,h.chain k4,k5⟩,k4.mod⟩
end
section
variable {W0 w w0 : World} {E : Nat → Addr} {H : Nat → Nat} {C : CPl} {F G0 : List Nat} {st : CSt}
theorem CoreF.aside {w':World}{b:Nat}(hC:CoreF W0 E H C w0 G0 w F st)(hm:Mod [b] w w')(hb:b∉C.foot F)(h0:w0.heap.size≤b):CoreF W0 E H C w0 G0 w' F st:=by
 rw[mem_foot]at hb;simp only[not_or]at hb
 have hd:∀q∈[b],q≠C.mb∧q∉C.s.blocks∧q∉F∧C.v.ownBlock≠some q:=fun q hq=>by rw[List.mem_singleton.1 hq];exact hb
 have hW:=hC.le0;refine⟨SchSt.start (hC.sch.sch.mod hm (fun q hq hqS=>(hd q hqS).2.1 hq)) (hC.hp.stab hC.sch.pool hm (fun q hq hqS=>(hd q hqS).2.2.1 hq)) (hC.sch.met.mod hm (fun hq=>(hd _ hq).1 rfl)) (hC.sch.env.mod hm (fun q hq=>by rw[List.mem_singleton.1 hq];omega)) hC.sch.apart hC.sch.mb0,own_far hC.row hm (fun k hk hkS=>(hd k hkS).2.2.2 hk),hC.rap,hC.pos,hC.kk,hC.mm,hC.le0,hC.sub,hC.mod.trans hm (fun _ hh _=>hh) (fun k hk hl=> ?_)⟩;rw[List.mem_singleton.1 hk]at hl;omega
def LePost (W0:World)(E:Nat→Addr)(H:Nat→Nat)(C:CPl)(w0:World)(G0:List Nat)(F:List Nat)(st:CSt)(key hash:Nat)(v:Value)(w':World):Prop:=
 ∃(id:Nat) (N:Nd) (o:Option Ent) (x':Mtr),st.a.Ns[id]?=some N∧id=st.a.l.getD (topOf hash st.a.d) 0∧IsLeast ⟨key,0,hash⟩ N.ents o∧v= .tuple #[entV (o.getD ⟨0,0,0⟩),.bool o.isSome,.int .u64 ((highOf N.pfx N.dpt:Nat):Int)]∧CoreF W0 E H C w0 G0 w' F {st with x:=x'}∧Cost ⟨st.x.all,⟨0,0,0⟩⟩ x' 192 0
theorem core_Least (h:CoreF W0 E H C w0 G0 w F st)(hi:CInv st.a st.ids [])(key hash:Nat)(h64:hash<18446744073709551616):Calls Tryz.prog 88 #[coreP C.mb,.int .u64 (hash:Int),.int .u64 (key:Int)] w fun e w'=>∃v,e= .returned v∧LePost W0 E H C w0 G0 F st key hash v w':=by
 have hbd:=h.bounds;have HBd:=qd hbd;obtain⟨N,hN,htp⟩:=hi.dir.at_ h64 hbd.1;obtain⟨id,hid⟩:∃id,id=st.a.l.getD (topOf hash st.a.d) 0:=⟨_,rfl⟩;rw[←hid]at hN;have HN:=qd hN;have HId:=qd hid;have HC:=qd (h.below ((Below.refl w.heap.size w).alloc (Nat.le_refl _) (.cells #[.int .u64 0,.int .u64 0,.int .u64 0] 45)));have HBx:=qd (Blk.new w 45 #[.int .u64 0,.int .u64 0,.int .u64 0]);have HLo:=qd (show w0.heap.size≤w.heap.size from h.mod.size);have HBo:=qd (show w.heap.size∉C.foot F from fun hq=>by have:=h.lts _ hq;omega);clear h hi hbd hN hid htp;unfold coreP;go_in;go_upto_region 1 with fail;refine nameW (F:=fun v=>CoreF W0 E H C w0 G0 v F st∧Blk v w.heap.size 45 #[.int .u64 0,.int .u64 0,.int .u64 0]) ⟨HC.out,HBx.out⟩ ?_;clear HC HBx;rintro w1 ⟨hC,hB⟩;obtain⟨bx,hbx⟩:∃bx,bx=w.heap.size:=⟨_,rfl⟩;rw[←hbx]at HBo HLo hB⊢;have hne:bx≠C.mb:=fun e=>HBo.out (mem_foot.2 (.inl e));have HNe:=qd hne;have HC:=qd hC;have HBx:=qd hB;have HRs:=qd (core_Reset hC.again);clear hC hB hbx hne;go_wp2_with fail;refine HRs.out.mono ?_;rintro y w2 ⟨rfl,h2⟩;replace HBx:=qd (HBx.out.mod h2.mod HBo.out);replace HC:=qd (HC.out.chain h2);clear h2 HRs;have HOf:=qd (core_of HC.out hash id h64 HId.out.symm (get_lt HN.out));unfold coreP nodeP at HOf;go_wp2_with fail;refine HOf.out.mono ?_;rintro y w3 ⟨rfl,hb⟩;replace HC:=qd (HC.out.below hb);replace HBx:=qB hb HBx;clear hb HOf;go_wp2_with fail;refine(meter_Probing (some ⟨C.mb,3,none⟩) w3).mono ?_;rintro y w4 ⟨rfl,hb⟩
 replace HC:=qd (HC.out.below hb);replace HBx:=qB hb HBx;clear hb;obtain⟨Fi,n1,n2,n3,n4,n5,n6⟩:=HC.out.node HN.out;have HLe:=qd (nd_Least key hash n1 n2 HC.out.sch.met HC.out.sch.env HC.out.sch.mb0 n3);have HPw:=qd (show N.pfx<2^N.dpt∧N.dpt≤16 from⟨n2.pfx,by have:=n2.deep;omega⟩);clear n1 n2 n3 n4 n5 n6;unfold nodeP at HLe;unfold optE entV at HLe;go_wp2_with fail;refine HLe.out.mono ?_;rintro y w5 ⟨o,x5,rfl,ho,q3,q4,q5⟩;have HO:=qd ho;have HCo:=qd q4;replace HC:=qd (HC.out.met q3 q5);replace HBx:=qd (HBx.out.mod q5 (fun hq=>HNe.out (List.mem_singleton.1 hq)));clear ho q3 q4 q5 HLe;obtain⟨e0,he0⟩:∃e0:Ent,e0=o.getD ⟨0,0,0⟩:=⟨_,rfl⟩;obtain⟨bs,hbs⟩:∃bs,bs=o.isSome:=⟨_,rfl⟩;rw[←he0,←hbs];have HE0:=qd he0;have HB0:=qd hbs;clear he0 hbs;have b:=HBx.out.c3;have g:=HBx.out.f3;have hnew:=((HBx.out.set_ 0 (.int .u64 (e0.key:Int))).set_ 1 (.int .u64 (e0.val:Int))).set_ 2 (.int .u64 (e0.hash:Int));have hm:=(((Mod.refl [bx] w5).sl 0 (.int .u64 (e0.key:Int))).sl 1 (.int .u64 (e0.val:Int))).sl 2 (.int .u64 (e0.hash:Int));simp only[pt]at hnew;have HNw:=qd hnew;have HMd:=qd hm;clear hnew hm;go_upto_region 4 with fail;refine nameW (F:=fun v=>Blk v bx 45 #[.int .u64 (e0.key:Int),.int .u64 (e0.val:Int),.int .u64 (e0.hash:Int)]∧Mod [bx] w5 v) ⟨HNw.out,HMd.out⟩ ?_;clear HNw HMd;rintro w6 ⟨hB6,hm6⟩;replace HC:=qd (HC.out.aside hm6 HBo.out HLo.out);replace HBx:=qd hB6;clear hB6 hm6 b g;obtain⟨Fi,n1,n2,n3,n4,n5,n6⟩:=HC.out.node HN.out
 have HPr:=qd (nd_Prefix (HC.out.below (Below.refl w6.heap.size w6).drew|>.node HN.out|>.choose_spec|>.1));clear n1 n2 n3 n4 n5 n6;obtain⟨pf,hpf⟩:∃pf,pf=N.pfx:=⟨_,rfl⟩;obtain⟨dp,hdp⟩:∃dp,dp=N.dpt:=⟨_,rfl⟩;rw[←hpf,←hdp]at HPr;have hpw:=HPw.out;rw[←hpf,←hdp]at hpw;obtain⟨hpl,hdl⟩:=hpw;have HPf:=qd hpf;have HDp:=qd hdp;unfold nodeP at HPr;clear hpf hdp HPw;have b:=HBx.out.c3;refine rT (fun(w':World)=>w'.cell? ⟨bx,0,none⟩=some (.int .u64 (e0.key:Int))∧w'.cell? ⟨bx,1,none⟩=some (.int .u64 (e0.val:Int))∧w'.cell? ⟨bx,2,none⟩=some (.int .u64 (e0.hash:Int))) [] ?_;have hHeld:=(⟨b.1,b.2.1,b.2.2⟩:_∧_∧_);refine vT 0 rfl ?_;refine vW 1 rfl ?_;refine vW 2 rfl ?_;refine nT 3 rfl fun K hK=> ?_;go_simp;refine(HPr.out).mono ?_;rintro y w7 ⟨rfl,hd7⟩;replace HC:=qd (HC.out.below ((Below.refl w6.heap.size w6).drew.drew));replace HBx:=qd HBx.out.drew.drew;rw[hd7]at HC HBx;clear hd7 HPr b;have b:=HBx.out.c3;go_wp2_with fail;have hHeld:=(⟨b.1,b.2.1,b.2.2⟩:_∧_∧_);refine kO hK ?_;clear hK K;refine vW 4 rfl ?_;refine vW 5 rfl ?_;refine nT 6 rfl fun K hK=> ?_;go_simp;refine(split_High pf dp hdl hpl w7).mono ?_;rintro y w8 ⟨rfl,rfl⟩;obtain⟨hg,hhg⟩:∃hg,hg=highOf pf dp:=⟨_,rfl⟩;rw[←hhg];have HHg:=qd hhg;clear hhg;go_wp2_with fail;have hHeld:=(⟨b.1,b.2.1,b.2.2⟩:_∧_∧_);refine kO hK ?_;clear hK K;refine vW 7 rfl ?_;refine vW 8 rfl ?_;refine nT 9 rfl fun K hK=> ?_;go_simp;refine(must_u64 (hg:Int) w7).mono ?_;rintro y w9 ⟨rfl,rfl⟩;go_wp2_with fail;have hHeld:=(⟨b.1,b.2.1,b.2.2⟩:_∧_∧_);refine kO hK ?_;clear hK K
 refine nT 10 rfl fun K hK=> ?_;have g:=HBx.out.f3;have hnew:=((HBx.out.set_ 0 (.int .u64 (e0.key:Int))).set_ 1 (.int .u64 (e0.val:Int))).set_ 2 (.int .u64 (e0.hash:Int));have hm:=(((Mod.refl [bx] w7).sl 0 (.int .u64 (e0.key:Int))).sl 1 (.int .u64 (e0.val:Int))).sl 2 (.int .u64 (e0.hash:Int));simp only[pt]at hnew;have HNw:=qd hnew;have HMd:=qd hm;clear hnew hm;go_simp;refine nameW (F:=fun v=>Blk v bx 45 #[.int .u64 (e0.key:Int),.int .u64 (e0.val:Int),.int .u64 (e0.hash:Int)]∧Mod [bx] w7 v) ⟨HNw.out,HMd.out⟩ ?_;clear HNw HMd b g;rintro w10 ⟨hB6,hm6⟩;replace HC:=qd (HC.out.aside hm6 HBo.out HLo.out);replace HBx:=qd hB6;clear hB6 hm6;have b:=HBx.out.c3;have hHeld:=(⟨b.1,b.2.1,b.2.2⟩:_∧_∧_);refine kO hK ?_;clear hK K;refine vW 11 rfl ?_;refine vW 12 rfl ?_;refine doneT (by kernel_rfl) ?_ _;go_wp2;refine bodyPost_ret (v:= .tuple #[.agg #[.int .u64 (e0.key:Int),.int .u64 (e0.val:Int),.int .u64 (e0.hash:Int)],.bool bs,.int .u64 (hg:Int)]) (by simp[results,Tryz.results88,go_sem,b.1,b.2.1,b.2.2]) rfl ?_;have hfin:LePost W0 E H C w0 G0 F st key hash (.tuple #[.agg #[.int .u64 (e0.key:Int),.int .u64 (e0.val:Int),.int .u64 (e0.hash:Int)],.bool bs,.int .u64 (hg:Int)]) w10:=⟨id,N,o,x5,HN.out,HId.out,HO.out,by rw[HE0.out,HB0.out,HHg.out,HPf.out,HDp.out];rfl,HC.out,HCo.out⟩
 first|exact⟨_,rfl,hfin⟩|exact hfin|exact⟨rfl,hfin⟩
end
section
variable {W0 w w0 : World} {E : Nat → Addr} {H : Nat → Nat} {C : CPl} {F G0 : List Nat} {st : CSt}
theorem core_Put_new (h:CoreF W0 E H C w0 G0 w F st)(hi:CInv st.a st.ids [])(e:Ent)(he:EntOk H e)(hk:∀y∈st.a.ents,y.key≠e.key)(hle:st.len<C.M)(hln:st.len=st.a.ents.length):Calls Tryz.prog 41 #[coreP C.mb,.int .u64 (e.key:Int),.int .u64 (e.val:Int),.int .u64 (e.hash:Int)] w fun y w'=>y= .returned (.nilIface)∧∃id,WrPost W0 E H C w0 G0 st id [] [e] (st.len+1) w':=by
 have h64:=he.h64;have HEn:=qd he;have HLe:=qd hln;have HRs:=qd (core_Reset h);have hbd:=h.bounds;have HBd:=qd hbd;have HI:=qd hi;obtain⟨N,hN,htp⟩:=hi.dir.at_ h64 hbd.1;have HTp:=qd htp;obtain⟨id,hid⟩:∃id,id=st.a.l.getD (topOf (e.hash) st.a.d) 0:=⟨_,rfl⟩;rw[←hid]at hN;have HN:=qd hN;have HId:=qd hid;clear hln he h hi hbd hN hid htp;unfold coreP
 have hlt:(st.len:Int)<(C.M:Int):=by omega
 go_in;go_wp2_with fail;refine HRs.out.mono ?_;rintro y w1 ⟨rfl,h1⟩;have HC:=qd h1;clear h1 HRs;have HOf:=qd (core_of HC.out (e.hash) id h64 HId.out.symm (get_lt HN.out));unfold coreP nodeP at HOf;go_wp2_with fail;refine HOf.out.mono ?_;rintro y w2 ⟨rfl,hb⟩;replace HC:=qd (HC.out.below hb);clear hb HOf;obtain⟨c0,c1,c11,c12,c13,c14,c15⟩:=HC.out.cells;go_upto_region 3 with fail;go_region;clear c0 c1 c11 c12 c13 c14 c15;replace HC:=qd (HC.out.below (Below.refl w2.heap.size w2).drew);go_wp2_with fail;refine(meter_Probing (some ⟨C.mb,3,none⟩) (World.drew w2)).mono ?_;rintro y w3 ⟨rfl,hb⟩;replace HC:=qd (HC.out.below hb);clear hb;obtain⟨Fi,n1,n2,n3,n4,n5,n6⟩:=HC.out.node HN.out;have hNe:∀y∈N.ents,y.key≠e.key:=fun y hy=>hk y (mem_pool.2 ⟨id,N,HN.out,hy⟩)
 have hfew:N.ents.length+1≤192:=by
  obtain⟨B,B',b1,_⟩:=entsN_set (N':=N) HN.out
  have h1:st.a.ents.length=(B++(N.ents++B')).length:=by unfold Pool.ents;rw[b1]
  rw[List.length_append,List.length_append]at h1;have h2:=HC.out.mm.2;have h3:=HLe.out;omega
 have hsl:=HI.out.sl id N HN.out (by simp);have HFd:=qd (nd_Put_new e n1 n2 HEn.out HTp.out HC.out.sch.met HC.out.sch.env HC.out.sch.mb0 n3 hNe hfew hsl);have HX:=qd n6;have HCp:=qd (fun(N1:Nd) (hw:Wr H [] [e] N N1)=>wr_pre HI.out HN.out hw);clear n1 n2 n3 n4 n5 n6 hNe hk hfew hsl hlt;unfold nodeP entV at HFd;go_wp2_with fail;refine HFd.out.mono ?_;rintro y w4 ⟨rfl,x4,N1,q1,q2,q3,q4,q5⟩;obtain⟨F4,hC4⟩:=HX.out w4 Fi _ N1 x4 q1 q2.ok (fun q hq=> .inl hq) q3 q5 (fun q hq=>List.mem_cons.1 hq);have HC4:=qd hC4;have HCo:=qd q4;have HWr:=qd q2;clear hC4 q1 q2 q3 q4 q5 HFd HX HC;obtain⟨c0,c1,c11,c12,c13,c14,c15⟩:=HC4.out.cells;have f15:=HC4.out.frozen 15;obtain⟨ln,hln⟩:∃ln,ln=st.len+1:=⟨_,rfl⟩;have hm192:=HC4.out.mm.2
 have hwr:IntKind.i64.wrap ((st.len:Int)+1)=(ln:Int):=by rw[IntKind.wrap_i64]<;>omega
 have HLn:=qd hln;have HC6:=qd (HC4.out.setLen ln);clear hln;go_upto_region 10 with fail;refine nameW (F:=fun v=>CoreF W0 E H C w0 G0 v F4 {st with a:={st.a with Ns:=st.a.Ns.set id N1},x:=x4,len:=ln}) HC6.out ?_;rintro w6 hC6;clear c0 c1 c11 c12 c13 c14 c15 f15 HC4 HC6 hwr;have HC6:=qd hC6;have HMt:=qd (core_maintain HC6.out.again id N1 (by show(st.a.Ns.set id N1)[id]?=some N1;rw[set_get (get_lt HN.out),if_pos rfl]) (HCp.out N1 HWr.out));clear hC6 HCp;unfold coreP nodeP at HMt;go_wp2_with fail;refine HMt.out.mono ?_;rintro y w7 ⟨rfl,hmt⟩;obtain⟨hmt,_⟩:=hmt.chain HC6.out;have HMp:=qd hmt;clear hmt HMt HC6;go_wp2;refine bodyPost_ret (v:= .nilIface) (by simp[results,Tryz.results41,go_sem]) rfl ⟨rfl,id, ?_⟩;rw[←HLn.out];exact⟨N,N1,x4,HN.out,HWr.out,HCo.out,HMp.out⟩
theorem core_Put_found_t (h:CoreF W0 E H C w0 G0 w F st)(hi:CInv st.a st.ids [])(e:Ent)(he:EntOk H e)(e0:Ent)(he0:e0∈st.a.ents)(hk:e0.key=e.key)(hle:st.len<C.M):Calls Tryz.prog 41 #[coreP C.mb,.int .u64 (e.key:Int),.int .u64 (e.val:Int),.int .u64 (e.hash:Int)] w fun y w'=>y= .returned (.nilIface)∧∃id,WrPost W0 E H C w0 G0 st id [e0] [{e0 with val:=e.val}] st.len w':=by
 have h64:=he.h64;have HEn:=qd he;have HHh:=qd he.hash;have HRs:=qd (core_Reset h);have hbd:=h.bounds;have HBd:=qd hbd;have HI:=qd hi;obtain⟨N,hN,htp⟩:=hi.dir.at_ h64 hbd.1;have HTp:=qd htp;obtain⟨id,hid⟩:∃id,id=st.a.l.getD (topOf (e.hash) st.a.d) 0:=⟨_,rfl⟩;rw[←hid]at hN;have HN:=qd hN;have HId:=qd hid;clear he h hi hbd hN hid htp;unfold coreP
 have hlt:(st.len:Int)<(C.M:Int):=by omega
 go_in;go_wp2_with fail;refine HRs.out.mono ?_;rintro y w1 ⟨rfl,h1⟩;have HC:=qd h1;clear h1 HRs;have HOf:=qd (core_of HC.out (e.hash) id h64 HId.out.symm (get_lt HN.out));unfold coreP nodeP at HOf;go_wp2_with fail;refine HOf.out.mono ?_;rintro y w2 ⟨rfl,hb⟩;replace HC:=qd (HC.out.below hb);clear hb HOf;obtain⟨c0,c1,c11,c12,c13,c14,c15⟩:=HC.out.cells;go_upto_region 3 with fail;go_region;clear c0 c1 c11 c12 c13 c14 c15;replace HC:=qd (HC.out.below (Below.refl w2.heap.size w2).drew);go_wp2_with fail;refine(meter_Probing (some ⟨C.mb,3,none⟩) (World.drew w2)).mono ?_;rintro y w3 ⟨rfl,hb⟩;replace HC:=qd (HC.out.below hb);clear hb;obtain⟨Fi,n1,n2,n3,n4,n5,n6⟩:=HC.out.node HN.out;have hNe:e0∈N.ents:=pool_node HI.out.dir HBd.out.1 HBd.out.2.2.2 (key:=e.key) (by rw[←HHh.out];exact HId.out.symm) HN.out he0 hk;have HFd:=qd (nd_Put_found e true n1 n2 HHh.out h64 HEn.out.v64 HC.out.sch.met HC.out.sch.env HC.out.sch.mb0 n3 e0 hNe hk);have HX:=qd n6;have HCp:=qd (fun(N1:Nd) (hw:Wr H [e0] [{e0 with val:=e.val}] N N1)=>wr_pre HI.out HN.out hw);clear n1 n2 n3 n4 n5 n6 hNe hk he0 hlt;unfold nodeP entV at HFd;go_wp2_with fail;refine HFd.out.mono ?_;rintro y w4 ⟨rfl,x4,N1,q1,q2,q3,q4,q5⟩;obtain⟨F4,hC4⟩:=HX.out w4 Fi _ N1 x4 q1 q2.ok (fun q hq=> .inl hq) q3 q5 (fun q hq=>List.mem_cons.1 hq);have HC4:=qd hC4;have HCo:=qd q4;have HWr:=qd q2;clear hC4 q1 q2 q3 q4 q5 HFd HX HC;obtain⟨ln,hln⟩:∃ln,ln=st.len:=⟨_,rfl⟩;have HLn:=qd hln;go_upto_region 10 with fail;obtain⟨w6,hw6⟩:∃w6,w6=w4:=⟨_,rfl⟩;rw[←hw6]
 have hC6:CoreF W0 E H C w0 G0 w6 F4 {st with a:={st.a with Ns:=st.a.Ns.set id N1},x:=x4,len:=ln}:=by rw[hw6,hln];exact HC4.out
 clear HC4 hw6 hln;have HC6:=qd hC6;have HMt:=qd (core_maintain HC6.out.again id N1 (by show(st.a.Ns.set id N1)[id]?=some N1;rw[set_get (get_lt HN.out),if_pos rfl]) (HCp.out N1 HWr.out));clear hC6 HCp;unfold coreP nodeP at HMt;go_wp2_with fail;refine HMt.out.mono ?_;rintro y w7 ⟨rfl,hmt⟩;obtain⟨hmt,_⟩:=hmt.chain HC6.out;have HMp:=qd hmt;clear hmt HMt HC6;go_wp2;refine bodyPost_ret (v:= .nilIface) (by simp[results,Tryz.results41,go_sem]) rfl ⟨rfl,id, ?_⟩;rw[←HLn.out];exact⟨N,N1,x4,HN.out,HWr.out,HCo.out,HMp.out⟩
theorem core_Put_found_f (h:CoreF W0 E H C w0 G0 w F st)(hi:CInv st.a st.ids [])(e:Ent)(he:EntOk H e)(e0:Ent)(he0:e0∈st.a.ents)(hk:e0.key=e.key)(hle:¬st.len<C.M):Calls Tryz.prog 41 #[coreP C.mb,.int .u64 (e.key:Int),.int .u64 (e.val:Int),.int .u64 (e.hash:Int)] w fun y w'=>y= .returned (.nilIface)∧∃id,WrPost W0 E H C w0 G0 st id [e0] [{e0 with val:=e.val}] st.len w':=by
 have h64:=he.h64;have HEn:=qd he;have HHh:=qd he.hash;have HRs:=qd (core_Reset h);have hbd:=h.bounds;have HBd:=qd hbd;have HI:=qd hi;obtain⟨N,hN,htp⟩:=hi.dir.at_ h64 hbd.1;have HTp:=qd htp;obtain⟨id,hid⟩:∃id,id=st.a.l.getD (topOf (e.hash) st.a.d) 0:=⟨_,rfl⟩;rw[←hid]at hN;have HN:=qd hN;have HId:=qd hid;clear he h hi hbd hN hid htp;unfold coreP
 have hlt:¬(st.len:Int)<(C.M:Int):=by omega
 go_in;go_wp2_with fail;refine HRs.out.mono ?_;rintro y w1 ⟨rfl,h1⟩;have HC:=qd h1;clear h1 HRs;have HOf:=qd (core_of HC.out (e.hash) id h64 HId.out.symm (get_lt HN.out));unfold coreP nodeP at HOf;go_wp2_with fail;refine HOf.out.mono ?_;rintro y w2 ⟨rfl,hb⟩;replace HC:=qd (HC.out.below hb);clear hb HOf;obtain⟨c0,c1,c11,c12,c13,c14,c15⟩:=HC.out.cells;go_upto_region 3 with fail;go_region;clear c0 c1 c11 c12 c13 c14 c15;replace HC:=qd (HC.out.below (Below.refl w2.heap.size w2).drew);go_wp2_with fail;refine(meter_Probing (some ⟨C.mb,3,none⟩) (World.drew w2)).mono ?_;rintro y w3 ⟨rfl,hb⟩;replace HC:=qd (HC.out.below hb);clear hb;obtain⟨Fi,n1,n2,n3,n4,n5,n6⟩:=HC.out.node HN.out;have hNe:e0∈N.ents:=pool_node HI.out.dir HBd.out.1 HBd.out.2.2.2 (key:=e.key) (by rw[←HHh.out];exact HId.out.symm) HN.out he0 hk;have HFd:=qd (nd_Put_found e false n1 n2 HHh.out h64 HEn.out.v64 HC.out.sch.met HC.out.sch.env HC.out.sch.mb0 n3 e0 hNe hk);have HX:=qd n6;have HCp:=qd (fun(N1:Nd) (hw:Wr H [e0] [{e0 with val:=e.val}] N N1)=>wr_pre HI.out HN.out hw);clear n1 n2 n3 n4 n5 n6 hNe hk he0 hlt;unfold nodeP entV at HFd;go_wp2_with fail;refine HFd.out.mono ?_;rintro y w4 ⟨rfl,x4,N1,q1,q2,q3,q4,q5⟩;obtain⟨F4,hC4⟩:=HX.out w4 Fi _ N1 x4 q1 q2.ok (fun q hq=> .inl hq) q3 q5 (fun q hq=>List.mem_cons.1 hq);have HC4:=qd hC4;have HCo:=qd q4;have HWr:=qd q2;clear hC4 q1 q2 q3 q4 q5 HFd HX HC;obtain⟨ln,hln⟩:∃ln,ln=st.len:=⟨_,rfl⟩;have HLn:=qd hln;go_upto_region 10 with fail;obtain⟨w6,hw6⟩:∃w6,w6=w4:=⟨_,rfl⟩;rw[←hw6]
 have hC6:CoreF W0 E H C w0 G0 w6 F4 {st with a:={st.a with Ns:=st.a.Ns.set id N1},x:=x4,len:=ln}:=by rw[hw6,hln];exact HC4.out
 clear HC4 hw6 hln;have HC6:=qd hC6;have HMt:=qd (core_maintain HC6.out.again id N1 (by show(st.a.Ns.set id N1)[id]?=some N1;rw[set_get (get_lt HN.out),if_pos rfl]) (HCp.out N1 HWr.out));clear hC6 HCp;unfold coreP nodeP at HMt;go_wp2_with fail;refine HMt.out.mono ?_;rintro y w7 ⟨rfl,hmt⟩;obtain⟨hmt,_⟩:=hmt.chain HC6.out;have HMp:=qd hmt;clear hmt HMt HC6;go_wp2;refine bodyPost_ret (v:= .nilIface) (by simp[results,Tryz.results41,go_sem]) rfl ⟨rfl,id, ?_⟩;rw[←HLn.out];exact⟨N,N1,x4,HN.out,HWr.out,HCo.out,HMp.out⟩
theorem core_Put_found (h:CoreF W0 E H C w0 G0 w F st)(hi:CInv st.a st.ids [])(e:Ent)(he:EntOk H e)(e0:Ent)(he0:e0∈st.a.ents)(hk:e0.key=e.key):Calls Tryz.prog 41 #[coreP C.mb,.int .u64 (e.key:Int),.int .u64 (e.val:Int),.int .u64 (e.hash:Int)] w fun y w'=>y= .returned (.nilIface)∧∃id,WrPost W0 E H C w0 G0 st id [e0] [{e0 with val:=e.val}] st.len w':=by
 by_cases hle:st.len<C.M
 ·exact core_Put_found_t h hi e he e0 he0 hk hle
 ·exact core_Put_found_f h hi e he e0 he0 hk hle
theorem core_Put_full (h:CoreF W0 E H C w0 G0 w F st)(hi:CInv st.a st.ids [])(e:Ent)(he:EntOk H e)(hk:∀y∈st.a.ents,y.key≠e.key)(hle:¬st.len<C.M):Calls Tryz.prog 41 #[coreP C.mb,.int .u64 (e.key:Int),.int .u64 (e.val:Int),.int .u64 (e.hash:Int)] w fun y w'=>y= .returned (errV E 2)∧∃x',CoreF W0 E H C w0 G0 w' F {st with x:=x'}∧Cost ⟨st.x.all,⟨0,0,0⟩⟩ x' 128 0:=by
 have h64:=he.h64;have HEn:=qd he;have HRs:=qd (core_Reset h);have hbd:=h.bounds;have HBd:=qd hbd;have HI:=qd hi;obtain⟨N,hN,htp⟩:=hi.dir.at_ h64 hbd.1;have HTp:=qd htp;obtain⟨id,hid⟩:∃id,id=st.a.l.getD (topOf (e.hash) st.a.d) 0:=⟨_,rfl⟩;rw[←hid]at hN;have HN:=qd hN;have HId:=qd hid;clear he h hi hbd hN hid htp;unfold coreP
 have hlt:¬(st.len:Int)<(C.M:Int):=by omega
 go_in;go_wp2_with fail;refine HRs.out.mono ?_;rintro y w1 ⟨rfl,h1⟩;have HC:=qd h1;clear h1 HRs;have HOf:=qd (core_of HC.out (e.hash) id h64 HId.out.symm (get_lt HN.out));unfold coreP nodeP at HOf;go_wp2_with fail;refine HOf.out.mono ?_;rintro y w2 ⟨rfl,hb⟩;replace HC:=qd (HC.out.below hb);clear hb HOf;obtain⟨c0,c1,c11,c12,c13,c14,c15⟩:=HC.out.cells;go_upto_region 3 with fail;go_region;clear c0 c1 c11 c12 c13 c14 c15;replace HC:=qd (HC.out.below (Below.refl w2.heap.size w2).drew);go_wp2_with fail;refine(meter_Probing (some ⟨C.mb,3,none⟩) (World.drew w2)).mono ?_;rintro y w3 ⟨rfl,hb⟩;replace HC:=qd (HC.out.below hb);clear hb;obtain⟨Fi,n1,n2,n3,n4,n5,n6⟩:=HC.out.node HN.out;have hNe:∀y∈N.ents,y.key≠e.key:=fun y hy=>hk y (mem_pool.2 ⟨id,N,HN.out,hy⟩);have hfd:=nd_Put_full e n1 n2 HEn.out.hash h64 HC.out.sch.met HC.out.sch.env HC.out.sch.mb0 n3 hNe;rw[errV_pos E (by omega)]at hfd;have HFd:=qd hfd;clear hfd n1 n2 n3 n4 n5 n6 hNe hk;unfold nodeP entV at HFd;go_wp2_with fail;refine HFd.out.mono ?_;rintro y w4 ⟨rfl,x4,q3,q4,q5⟩;have HC4:=qd (HC.out.met q3 q5);have HCo:=qd q4;clear q3 q4 q5 HFd HC;have ce:w4.cell? ⟨1,0,none⟩=some (.iface 346 (.pointer (some (E 2)))):=HC4.out.sch.env.errs.at_ 2 (by omega) (by omega);have HIs:=qd (is_same (E 2) w4);go_wp2_with fail;refine HIs.out.mono ?_;rintro y w5 ⟨rfl,rfl⟩;go_wp2_with fail;refine(trap_Need w4).mono ?_;rintro y w5 ⟨rfl,rfl⟩;go_wp2
 refine bodyPost_ret (v:= .iface 346 (.pointer (some (E 2)))) (by simp[results,Tryz.results41,go_sem]) rfl ⟨?_,x4,HC4.out,HCo.out⟩;rw[errV_pos E (by omega)]
end
def nd0:Nd:=⟨0,0,0,0,prepT 1 1,.idle⟩
def pool0:Pool:=⟨[nd0],0,[0],none⟩
theorem nd0_ok (H:Nat→Nat):NOk H nd0:=by
 obtain⟨h1,h2,h3⟩:=tg_bare (n:=1) (.inl rfl)
 have hE:nd0.ents=[]:=by unfold Nd.ents nd0;rw[h2];rfl
 refine⟨h1,Nat.zero_le _,.inl rfl,by decide,Nat.zero_le _,by rw[hE];exact List.nodup_nil,fun e he=>(by rw[hE]at he;cases he),by rw[hE];exact Nat.zero_le _,rfl, ?_⟩;show load (prepT 1 1)≤_;rw[h3];exact Nat.zero_le _
theorem ents0:pool0.ents=[]:=by
 obtain⟨h1,h2,h3⟩:=tg_bare (n:=1) (.inl rfl)
 have hE:nd0.ents=[]:=by unfold Nd.ents nd0;rw[h2];rfl
 unfold Pool.ents pool0;simp[hE]
theorem inv0:CInv pool0 [] []:=by
 have hget:∀(i:Nat) (N:Nd),pool0.Ns[i]?=some N→i=0∧N=nd0:=fun i N hN=>by
  have h1:i<1:=get_lt hN
  obtain rfl:i=0:=by omega
  exact⟨rfl,(Option.some.inj hN).symm⟩
 refine⟨⟨fun i N hN=> ?_,fun j hj=> ?_,fun i N j hN hj hp=> ?_,rfl,fun i N hN hb=> ?_,fun c hc=>by cases hc⟩,fun id=> ?_,List.nodup_nil,List.nodup_nil,fun i hi=>(by cases hi),fun i hi=>(by cases hi),fun i hi=>(by cases hi),fun i N hN _=> ?_⟩
 ·obtain⟨_,rfl⟩:=hget i N hN;exact⟨Nat.le_refl _,by decide⟩
 ·have h1:j<1:=hj
  obtain rfl:j=0:=by omega
  exact⟨nd0,rfl,rfl⟩
 ·obtain⟨rfl,rfl⟩:=hget i N hN;have h1:j<1:=hj
  obtain rfl:j=0:=by omega
  rfl
 ·obtain⟨_,rfl⟩:=hget i N hN;cases hb
 ·constructor
  ·rintro(⟨N,h1,h2⟩|⟨_,_,c,h3⟩)
   ·obtain⟨_,rfl⟩:=hget id N h1;cases h2
   ·cases h3
  ·rintro(h|h)<;>cases h
 ·obtain⟨_,rfl⟩:=hget i N hN;rfl
def coreCells (K M I db sb vb:Nat):Array Value:= #[.int .i64 (K:Int),.int .i64 (M:Int),.int .i64 (I:Int),.int .i64 0,.int .i64 0,.int .i64 0,.int .i64 0,.int .i64 0,.int .i64 0,.bool false,.int .i64 0,.slice (some ⟨vb,0,none⟩) 1 1,.pointer (some ⟨db,0,none⟩),.pointer none,.pointer (some ⟨sb,0,none⟩),.int .i64 0]
def st0:CSt:=⟨pool0,[],0,0,mtr0⟩
def adr0 (nb db eb:Nat):Adr:=⟨fun _=>nb,db,eb,0,0,0⟩
theorem CoreF.fresh {W0:World}{E:Nat→Addr}(H:Nat→Nat){w w5:World}{nb tb gb db eb sb qb rb jb vb K M I:Nat}(hE:Env W0 E w)(hK:1≤K∧K≤64)(hM:1≤M∧M≤192)(hb:Below w.heap.size w w5)(hN:NdAt w5 nb [nb,tb,gb] nd0)(hD:DirAt w5 db eb 0 [0])(hS:SchAt w5 sb qb rb jb (K:Int) 0 (adr0 nb db eb).val [])
  (hR:w5.ownsRow W0.heap.size 135 1 (.slice (some ⟨vb,0,none⟩) 1 1) 1 [.pointer (some ⟨nb,0,none⟩)]) (hlow:∀q∈[nb,tb,gb,db,eb,sb,qb,rb,jb,vb],w.heap.size≤q) (hap:∀q∈[nb,tb,gb],q∉[db,eb,sb,qb,rb,jb,vb]) (hap2:∀q∈[db,eb],q∉[sb,qb,rb,jb,vb]) (hap3:∀q∈[sb,qb,rb,jb],q≠vb):
  ∃F,CoreF W0 E H ⟨w5.heap.size,sb,qb,rb,jb,adr0 nb db eb,.slice (some ⟨vb,0,none⟩) 1 1,K,M,I,0⟩ w [] (w5.alloc (.cells (coreCells K M I db sb vb) 147)) F st0:=by
 have hb6:Below w5.heap.size w5 (w5.alloc (.cells (coreCells K M I db sb vb) 147)):=(Below.refl _ _).alloc (Nat.le_refl _) _;have hm6:=Mod.of_below hb6 [];have hz:=hb.size;have hzW:=hE.size;have hvl:=(hR.lt vb rfl).2;have hNl:=hN.lts;have hSl:=hS.lt
 have hgetN:∀(i:Nat) (N:Nd),[nd0][i]?=some N→i=0∧N=nd0:=fun i N hh=>by
  have h1:i<1:=get_lt hh
  obtain rfl:i=0:=by omega
  exact⟨rfl,(Option.some.inj hh).symm⟩
 have hfp:∀q,q∈footP (adr0 nb db eb) (fun _=> [nb,tb,gb]) pool0↔q∈[nb,tb,gb,db,eb]:=fun q=>by
  rw[mem_footP];constructor
  ·rintro(⟨i,_,hq⟩|hq)
   ·simp at hq⊢;omega
   ·unfold Adr.dirF adr0 pool0 at hq;simp at hq⊢;omega
  ·intro hq;by_cases h1:q∈[nb,tb,gb]
   ·exact .inl ⟨0,by decide,h1⟩
   ·refine .inr ?_;unfold Adr.dirF adr0 pool0;simp at hq h1⊢;omega
 have hPool:PoolIn W0 w5.heap.size H (adr0 nb db eb) (w5.alloc (.cells (coreCells K M I db sb vb) 147)) (fun _=> [nb,tb,gb]) pool0:=by
  refine⟨fun i N hi=> ?_,hD.mod hm6 (by simp) (by simp),fun next lf hc=>(by cases hc),fun i j hi hj hij=> ?_,fun i hi q hq hq2=> ?_,fun q hq=> ?_,fun hq=> ?_,by decide⟩
  ·obtain⟨_,rfl⟩:=hgetN i N hi;exact⟨hN.mod hm6 (by simp),nd0_ok H⟩
  ·have h1:i<1:=hi;have h2:j<1:=hj;omega
  ·unfold Adr.dirF adr0 pool0 at hq2;exact hap q hq (by simp at hq2⊢;omega)
  ·have h1:=(hfp q).1 hq;have:=hlow q (by simp at h1⊢;omega);omega
  ·have h1:=(hfp _).1 hq;simp at h1;have h2:=hD.lt;have h3:=hD.ltE;have h4:=hNl nb (by simp);have h5:=hNl tb (by simp);have h6:=hNl gb (by simp);omega
 have hmet:MetP (w5.alloc (.cells (coreCells K M I db sb vb) 147)) (cmp ⟨w5.heap.size,sb,qb,rb,jb,adr0 nb db eb,.slice (some ⟨vb,0,none⟩) 1 1,K,M,I,0⟩ st0) mtr0:=⟨rfl,Blk.new w5 147 (coreCells K M I db sb vb)⟩;have hsb:∀q∈[sb,qb,rb,jb],q<w5.heap.size:=hSl;refine⟨footP (adr0 nb db eb) (fun _=> [nb,tb,gb]) pool0,SchSt.start (hS.mod hm6 (by simp)) ⟨_,rfl,hPool⟩ hmet (hE.mod ((Mod.of_below hb []).then hm6) (by simp)) (fun q hq=>⟨fun hqF=> ?_, ?_, ?_⟩) (by show W0.heap.size≤w5.heap.size;omega),hR.alloc _,fun g hg hq=> ?_,by decide,hK,hM,hzW,fun q hq=> ?_,(Mod.of_below hb []).then hm6⟩
 ·have hq':q∈[sb,qb,rb,jb]:=hq;have h1:=(hfp q).1 hqF;by_cases h2:q∈[nb,tb,gb]
  ·exact hap q h2 (by simp at hq'⊢;omega)
  ·exact hap2 q (by simp at h1 h2⊢;omega) (by simp at hq'⊢;omega)
 ·have:=hsb q hq;show q≠w5.heap.size;omega
 ·have hq':q∈[sb,qb,rb,jb]:=hq;have:=hlow q (by simp at hq'⊢;omega);omega
 ·have hg':g=vb:=by simpa using(Option.some.inj hg).symm
  subst hg'
  have hq':g=w5.heap.size∨g∈[sb,qb,rb,jb]∨g∈footP (adr0 nb db eb) (fun _=> [nb,tb,gb]) pool0:=by
   rcases List.mem_cons.1 hq with h3|h3
   ·exact .inl h3
   ·exact .inr (List.mem_append.1 h3)
  rcases hq' with h1|h1|h1
  ·omega
  ·exact hap3 g h1 rfl
  ·have h2:=(hfp g).1 h1;by_cases h3:g∈[nb,tb,gb]
   ·exact hap g h3 (by simp)
   ·exact hap2 g (by simp at h2 h3⊢;omega) (by simp)
 ·right;rcases mem_foot.1 hq with h1|h1|h1|h1
  ·have h2:q=w5.heap.size:=h1;omega
  ·have h2:q∈[sb,qb,rb,jb]:=h1;exact hlow q (by simp at h2⊢;omega)
  ·have h2:=(hfp q).1 h1;exact hlow q (by simp at h2⊢;omega)
  ·have h2:q=vb:=by simpa using(Option.some.inj h1).symm
   exact hlow q (by simp[h2])
def groupsTo (Ns:List Nd)(i:Nat):Nat:=((Ns.take i).map Nd.groups).sum
section
variable {W0 w : World} {E : Nat → Addr}
def NewAt (W0:World)(E:Nat→Addr)(H:Nat→Nat)(K M:Nat)(w:World)(mb:Nat)(w':World):Prop:=∃(C:CPl) (F:List Nat),C.mb=mb∧C.K=K∧C.M=M∧CoreF W0 E H C w [] w' F st0
theorem core_New_bad (hE:Env W0 E w)(k m i:Int)(hcf:cfgOk k m i=false):Calls Tryz.prog 37 #[cfgV k m i] w fun e w'=>e= .returned (.tuple #[.pointer none,errV E 1])∧Below w.heap.size w w':=by
 have HEr:=qd hE;have hB0:=Blk.new w 23 #[.int .i64 k,.int .i64 m,.int .i64 i];have hb0:=(Below.refl w.heap.size w).alloc (Nat.le_refl _) (.cells #[.int .i64 k,.int .i64 m,.int .i64 i] 23);unfold cfgV;go_in;go_upto_region 1 with fail;refine nameW (F:=fun v=>Blk v w.heap.size 23 #[.int .i64 k,.int .i64 m,.int .i64 i]∧Below w.heap.size w v) ⟨hB0,hb0⟩ ?_;clear hB0 hb0;rintro w1 ⟨hB1,hb1⟩;obtain⟨bx,hbx⟩:∃bx,bx=w.heap.size:=⟨_,rfl⟩;rw[←hbx]at hB1⊢;have HBx:=qd hbx;have HB:=qd hB1;have HE1:=qd (hE.mod (Mod.of_below hb1 []) (by simp));have HBl:=qd hb1;obtain⟨k0,k1,k2⟩:=hB1.c3;have HCh:=qd (plan_Check k m i w1 HE1.out.errs);rw[hcf]at HCh;simp only[Bool.false_eq_true,if_false]at HCh;rw[errV_pos E (by omega)]at HCh;unfold cfgV at HCh;clear hB1 hb1 hbx hE;go_wp2_with fail;refine HCh.out.mono ?_;rintro y w2 ⟨rfl,hb2⟩;go_wp2;refine bodyPost_ret (v:= .tuple #[.pointer none,.iface 346 (.pointer (some (E 1)))]) (by simp[results,Tryz.results37,go_sem]) rfl ⟨?_,below2 HBl.out hb2⟩;rw[errV_pos E (by omega)]
theorem core_New (H:Nat→Nat)(hE:Env W0 E w)(k m i:Int)(hcf:cfgOk k m i=true)(K M I:Nat)(hkm:(1≤K∧K≤64)∧(1≤M∧M≤192)∧k=(K:Int)∧m=(M:Int)∧i=(I:Int)):Calls Tryz.prog 37 #[cfgV k m i] w fun e w'=>∃mb,e= .returned (.tuple #[coreP mb,.nilIface])∧NewAt W0 E H K M w mb w':=by
 have HKk:=qd hkm;clear hkm;have HEr:=qd hE;have hB0:=Blk.new w 23 #[.int .i64 k,.int .i64 m,.int .i64 i];have hb0:=(Below.refl w.heap.size w).alloc (Nat.le_refl _) (.cells #[.int .i64 k,.int .i64 m,.int .i64 i] 23);unfold cfgV;go_in;go_upto_region 1 with fail;refine nameW (F:=fun v=>Blk v w.heap.size 23 #[.int .i64 k,.int .i64 m,.int .i64 i]∧Below w.heap.size w v) ⟨hB0,hb0⟩ ?_;clear hB0 hb0;rintro w1 ⟨hB1,hb1⟩;obtain⟨bx,hbx⟩:∃bx,bx=w.heap.size:=⟨_,rfl⟩;rw[←hbx]at hB1⊢;have HBx:=qd hbx;have HB:=qd hB1;have HE1:=qd (hE.mod (Mod.of_below hb1 []) (by simp));have HBl:=qd hb1;obtain⟨k0,k1,k2⟩:=hB1.c3;have HCh:=qd (plan_Check k m i w1 HE1.out.errs);rw[hcf]at HCh;simp only[if_true]at HCh;unfold cfgV at HCh;have hz1:=hb1.size;have hbxl:=HB.out.lt;clear hB1 hb1 hE hbx;go_wp2_with fail;refine HCh.out.mono ?_;rintro y w2 ⟨rfl,hb2⟩;replace HB:=qB hb2 HB;replace HBl:=qd (below2 HBl.out hb2);replace HE1:=qB hb2 HE1;have hz2:=hb2.size;clear hb2 HCh k0 k1 k2;go_wp2_with fail;refine(node_New w2).mono ?_;rintro y w3 ⟨nb,tb,gb,rfl,hn1,hn2,⟨l1,l2,l3,l4,l5⟩,hb3⟩;have HN:=qd (show NdAt w3 nb [nb,tb,gb] nd0 from⟨tb,gb,hn1,hn2,rfl,l4,l5⟩);replace HB:=qB hb3 HB;replace HBl:=qd (below2 HBl.out hb3);replace HE1:=qB hb3 HE1;have hz3:=hb3.size;have l6:=hn2.ne;have hnl:=HN.out.lts;have hn1l:=hnl nb (by simp);have hn2l:=hnl tb (by simp);have hn3l:=hnl gb (by simp);clear hb3 hn1 hn2 hnl;unfold nodeP
 have HDn:=qd (show Calls Tryz.prog 68 #[.int .i64 0] w3 _ from dir_New 0 (by omega) w3);unfold dirP at HDn;go_wp2_with fail;refine HDn.out.mono ?_;rintro y w4 ⟨rfl,hd4,hb4⟩;have HD:=qd (show DirAt w4 (w3.heap.size+1) w3.heap.size 0 [0]from hd4);replace HN:=qd (HN.out.mod (Mod.of_below hb4 []) (by simp));replace HB:=qB hb4 HB;replace HBl:=qd (below2 HBl.out hb4);replace HE1:=qB hb4 HE1;have hz4:=hb4.size;have hd1l:=HD.out.lt;have hd2l:=HD.out.ltE;obtain⟨db,hdb⟩:∃db,db=w3.heap.size+1:=⟨_,rfl⟩;obtain⟨eb,heb⟩:∃eb,eb=w3.heap.size:=⟨_,rfl⟩;rw[←hdb,←heb]at HD;rw[←hdb];rw[←hdb]at hd1l;rw[←heb]at hd2l;have HDb:=qd hdb;have HEb:=qd heb;clear hb4 hd4 HDn hdb heb;have kk:=HB.out.c3;have HSn:=qd (sched_New k (by have:=HKk.out;omega) (adr0 nb db eb).val w4 HE1.out.errs);unfold schP at HSn;go_wp2_with fail;refine HSn.out.mono ?_;rintro y w5 ⟨sb,qb,rb,jb,rfl,hs5,hsl,hb5⟩;have HS:=qd hs5;replace HN:=qd (HN.out.mod (Mod.of_below hb5 []) (by simp));replace HD:=qB hb5 HD;replace HB:=qB hb5 HB;replace HBl:=qd (below2 HBl.out hb5);replace HE1:=qB hb5 HE1;have hz5:=hb5.size;have HSl:=qd hsl;clear kk hb5 hs5 HSn hsl;have kk:=HB.out.c3;go_wp2;have hrow:=World.ownsRow_lit (base:=W0.heap.size) (e:=135) (size:=1) w5 #[.pointer (some ⟨nb,0,none⟩)] 1 (by have:=HE1.out.size;omega) (by decide) rfl;have hb6:Below w5.heap.size w5 (w5.alloc (.cells #[.pointer (some ⟨nb,0,none⟩)] 135)):=(Below.refl _ _).alloc (Nat.le_refl _) _;have hm6:=Mod.of_below hb6 []
 have hsl:=HSl.out;have hd1:=HDb.out;have hd2:=HEb.out;have s1:=hsl sb (by simp);have s2:=hsl qb (by simp);have s3:=hsl rb (by simp);have s4:=hsl jb (by simp);have hslt:=HS.out.lt;have t1:=hslt sb (by simp);have t2:=hslt qb (by simp);have t3:=hslt rb (by simp);have t4:=hslt jb (by simp);have hbx9:=HBx.out
 obtain⟨F,hF⟩:=CoreF.fresh H (w:=w) (w5:=w5.alloc (.cells #[.pointer (some ⟨nb,0,none⟩)] 135)) (nb:=nb) (tb:=tb) (gb:=gb) (db:=db) (eb:=eb) (sb:=sb) (qb:=qb) (rb:=rb) (jb:=jb) (vb:=w5.heap.size) (K:=K) (M:=M) (I:=I) HEr.out HKk.out.1 HKk.out.2.1 (below2 HBl.out hb6) (HN.out.mod hm6 (by simp)) (HD.out.mod hm6 (by simp) (by simp)) (HKk.out.2.2.1▸HS.out.mod hm6 (by simp)) hrow
  (by intro q hq;simp at hq;omega) (by intro q hq;simp at hq⊢;omega) (by intro q hq;simp at hq⊢;omega) (by intro q hq;simp at hq;omega)
 have hkk:=HKk.out.2.2
 have hq:coreCells K M I db sb w5.heap.size= #[.int .i64 k,.int .i64 m,.int .i64 i,.int .i64 0,.int .i64 0,.int .i64 0,.int .i64 0,.int .i64 0,.int .i64 0,.bool false,.int .i64 0,.slice (some ⟨w5.heap.size,0,none⟩) 1 1,.pointer (some ⟨db,0,none⟩),.pointer none,.pointer (some ⟨sb,0,none⟩),.int .i64 0]:=by
  unfold coreCells;rw[hkk.1,hkk.2.1,hkk.2.2]
 rw[hq]at hF;refine bodyPost_ret (v:= .tuple #[.pointer (some ⟨w5.heap.size+1,0,none⟩),.nilIface]) (by simp[results,Tryz.results37,go_sem]) rfl ⟨w5.heap.size+1,rfl,⟨_,F, ?_,rfl,rfl,hF⟩⟩;simp
end
section
variable {α : Type} {id : Nat} {W0 w : World} {E : Nat → Addr}
def sumL {α:Type}(left:α→Nat→Nat)(a:α)(ids:List Nat):Nat:=(ids.map (left a)).sum
def LeftIs (l:Lit→Bool)(rem:List Nat):Prop:=∀x:Int,(Lit.int .i64 x).wf=true→(l (.int .i64 x)=true↔∃id∈rem,x=(id:Int))
theorem LeftIs.next {l:Lit→Bool}{rem:List Nat}(h:LeftIs l rem)(hn:rem.Nodup):LeftIs (fun z=>l z && !z.sameKey (.int .i64 (id:Int))) (rem.erase id):=fun x hx=>by
 have hk:(Lit.int .i64 x).sameKey (.int .i64 (id:Int))=decide (x=(id:Int)):=by simp[Lit.sameKey]
 show(l (.int .i64 x) && !(Lit.int .i64 x).sameKey (.int .i64 (id:Int)))=true↔_;rw[hk,Bool.and_eq_true,h x hx];constructor
 ·rintro⟨⟨j,hj,rfl⟩,h2⟩
  have h3:¬(j:Int)=(id:Int):=by simpa using h2
  exact⟨j,(List.mem_erase_of_ne (fun e=>h3 (by rw[e]))).2 hj,rfl⟩
 ·rintro⟨j,hj,rfl⟩;rw[hn.mem_erase_iff]at hj;have h3:¬(j:Int)=(id:Int):=fun e=>hj.1 (by omega);exact⟨⟨j,hj.2,rfl⟩,by simpa using h3⟩
end
end Go.Proofs.YthfgacnlojmmfaaGreatDoor
