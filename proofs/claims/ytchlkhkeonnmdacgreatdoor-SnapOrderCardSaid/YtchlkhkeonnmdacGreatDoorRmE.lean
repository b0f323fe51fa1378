/- The iterators that are open, by the contracts of their package. No statement of the claim. -/
import Derived.Test.YtchlkhkeonnmdacGreatDoorRmM
import Derived.Test.YtchlkhkeonnmdacGreatDoorSqT
import Derived.Test.YtchlkhkeonnmdacGreatDoorLaneP
import Derived.Test.YtchlkhkeonnmdacGreatDoorCoAB
import Derived.BigRegion
namespace Go.Proofs.YtchlkhkeonnmdacGreatDoor
set_option maxRecDepth 100000
set_option maxHeartbeats 4000000
open Go.RowKit AmC
open Go.ChangeMaps (setBlock)
section
variable {cb id : Nat} {c : Cur}
structure It where
 id:Nat
 cb:Nat
 c:Cur
def itFoot (ib mb:Nat)(its:List It):List Nat:=ib::mb::its.map It.cb
def itMap (its:List It):List (Nat×Nat):=its.map fun i=>(i.id,i.cb)
structure ItAt (w:World)(ib mb most given:Nat)(its:List It):Prop where
 blk:Blk w ib 128 #[.int .i64 (most:Int),.int .i64 (given:Int),.map (some mb)]
 map:MapL w mb given (itMap its)
 cur:∀i∈its,CurAt w i.cb i.c
 ids:∀i∈its,1≤i.id∧i.id≤given
 nd:(its.map It.id).Nodup
 nf:(itFoot ib mb its).Nodup
 few:most≤8∧its.length≤most
section
variable {w w' : World} {ib mb most given : Nat} {its : List It}
theorem ItAt.lts (h:ItAt w ib mb most given its):∀q∈itFoot ib mb its,q<w.heap.size:=by
 intro q hq;unfold itFoot at hq;rcases List.mem_cons.1 hq with rfl|hq
 ·exact h.blk.lt
 ·rcases List.mem_cons.1 hq with rfl|hq
  ·exact h.map.lt
  ·obtain⟨i,hi,rfl⟩:=List.mem_map.1 hq;exact(h.cur i hi).lt
theorem ItAt.mod {S:List Nat}(h:ItAt w ib mb most given its)(hm:Mod S w w')(hS:∀q∈itFoot ib mb its,q∉S):ItAt w' ib mb most given its:=
 ⟨h.blk.mod hm (hS _ (by simp[itFoot])),h.map.mod hm (hS _ (by simp[itFoot])),fun i hi=>(h.cur i hi).mod hm (hS _ (by simp only[itFoot,List.mem_cons];exact .inr (.inr (List.mem_map_of_mem hi)))),h.ids,h.nd,h.nf,h.few⟩
instance {w w':World}{ib mb most given:Nat}{its:List It}:Md (ItAt w ib mb most given its) w w' (ItAt w' ib mb most given its) (fun S=>∀q∈itFoot ib mb its,q∉S):=⟨fun h hm hs=>ItAt.mod h hm hs⟩
theorem ItAt.below (h:ItAt w ib mb most given its)(hb:Below w.heap.size w w'):ItAt w' ib mb most given its:=h.mod (Mod.of_below hb []) (by simp)
end
theorem zeroCur (w:World):(zeroValue 105).run Tryz.prog w= .ok (.pointer none) w:=by kernel_rfl
theorem lenMap {w:World}{b g:Nat}{l:List (Nat×Nat)}(h:MapL w b g l)(ty:TypeId):(Builtin.len_ #[126] ty #[.map (some b)]).run Tryz.prog w= .ok (.int .i64 (l.length:Int)) w:=by
 have:=run_len_map (P:=Tryz.prog) w 126 ty b _ g (by kernel_rfl) (show w.heap[b]?=some (.map (l.map mEnt).toArray g)from h);rw[this];simp[goInt]
theorem iters_New (n:Nat)(hn:1≤n∧n≤8)(w:World):Calls Tryz.prog 26 #[.int .i64 (n:Int)] w fun y w'=>y= .returned (.tuple #[.pointer (some ⟨(w.heap.size+1),0,none⟩),.nilIface])∧ItAt w' (w.heap.size+1) w.heap.size n 0 []∧Below w.heap.size w w':=by
 have h1:¬(n:Int)<1:=by omega
 have h2:¬(n:Int)>8:=by omega
 have hm:∀W:World,(Instr.makeMap 126 none).run Tryz.prog W= .ok (.map (some W.heap.size)) (W.alloc (.map #[] 0)):=fun _=>rfl;have HN:=qd hn;clear hn;go_in;go_wp2;refine bodyPost_ret (v:= .tuple #[.pointer (some ⟨(w.heap.size+1),0,none⟩),.nilIface]) (by simp[results,Tryz.results26,go_sem]) rfl ⟨rfl, ?_, ?_⟩
 ·exact⟨by simpa using Blk.new (w.alloc (.map #[] 0)) 128 #[.int .i64 (n:Int),.int .i64 0,.map (some w.heap.size)],(MapL.new w).mod (Mod.of_below ((Below.refl _ _).alloc (Nat.le_refl _) _) []) (by simp),by simp,by simp,by simp,by simp[itFoot],by have:=HN.out;simp;omega⟩
 ·exact((Below.refl _ _).alloc (Nat.le_refl _) _).alloc (by simp) _
section
variable {w : World} {ib mb most given : Nat} {its : List It}
theorem nodup_map_eq {its:List It}(hn:(its.map It.id).Nodup){i j:It}(hi:i∈its)(hj:j∈its)(h:i.id=j.id):i=j:=by
 induction its with
 |nil=>cases hi
 |cons x l ih=>
  rw[List.map_cons,List.nodup_cons]at hn;rcases List.mem_cons.1 hi with h1|h1
  ·rcases List.mem_cons.1 hj with h2|h2
   ·rw[h1,h2]
   ·exact absurd (show x.id∈l.map It.id from by rw[←h1,h];exact List.mem_map_of_mem h2) hn.1
  ·rcases List.mem_cons.1 hj with h2|h2
   ·exact absurd (show x.id∈l.map It.id from by rw[←h2,←h];exact List.mem_map_of_mem h1) hn.1
   ·exact ih hn.2 h1 h2
theorem findL_it (hn:(its.map It.id).Nodup)(h:⟨id,cb,c⟩∈its):findL (itMap its) (id:Int)=some cb:=by
 cases hf:findL (itMap its) (id:Int)with
 |none=>
  exact absurd rfl (findL_none.1 hf (id,cb) (List.mem_map.2 ⟨_,h,rfl⟩))
 |some cb'=>
  obtain⟨n,h1,h2⟩:=findL_mem hf;obtain⟨i,h3,h4⟩:=List.mem_map.1 h1;obtain⟨h5,h6⟩:=Prod.mk.inj h4
  have hid:i.id=id:=by omega
  have:i=⟨id,cb,c⟩:=by
   exact nodup_map_eq hn h3 h hid
  rw[this]at h6;exact congrArg some h6.symm
theorem iters_At (h:ItAt w ib mb most given its)(hi:⟨id,cb,c⟩∈its):Calls Tryz.prog 46 #[.pointer (some ⟨ib,0,none⟩),.int .i64 (id:Int)] w fun y w'=>y= .returned (.tuple #[.pointer (some ⟨cb,0,none⟩),.nilIface])∧w=w':=by
 have hl:=h.map.look (P:=Tryz.prog) (t:=126) Tryz.underlying126 Tryz.underlying3 (zeroCur _) (id:Int);rw[findL_it h.nd hi]at hl;obtain⟨c0,c1,c2⟩:=h.blk.c3;unfold ptrO at hl;simp only[Option.map_some,Option.isSome_some]at hl;clear h hi;go_in;go_wp2;refine bodyPost_ret (v:= .tuple #[.pointer (some ⟨cb,0,none⟩),.nilIface]) (by simp[results,Tryz.results46,go_sem]) rfl ⟨rfl,rfl⟩
theorem ItAt.opened {w2:World}(h:ItAt w ib mb most given its)(hlt:its.length<most)(hb:Blk w2 ib 128 #[.int .i64 (most:Int),.int .i64 ((given:Int)+1),.map (some mb)])(hm:MapL w2 mb (given+1) (itMap its++[(given+1,cb)]))(hc:CurAt w2 cb ⟨0,0,false⟩)(hcb:w.heap.size≤cb)(hmod:Mod [ib,mb] w w2):ItAt w2 ib mb most (given+1) (its++[⟨given+1,cb,⟨0,0,false⟩⟩]):=by
 have hl:=h.lts;have hnf:=h.nf
 have hcbs:∀i∈its,i.cb∉[ib,mb]:=fun i hi=>by
  unfold itFoot at hnf;rw[List.nodup_cons,List.nodup_cons]at hnf;have:=List.mem_map_of_mem (f:=It.cb) hi;intro hh;rcases List.mem_cons.1 hh with e|e
  ·exact hnf.1 (List.mem_cons_of_mem _ (e▸this))
  ·exact hnf.2.1 (List.mem_singleton.1 e▸this)
 refine⟨hb,by unfold itMap at hm⊢;rw[List.map_append];exact hm,fun i hi=> ?_,fun i hi=> ?_, ?_, ?_,h.few.1,by rw[List.length_append];simp;omega⟩
 ·rcases List.mem_append.1 hi with hi|hi
  ·exact(h.cur i hi).mod hmod (hcbs i hi)
  ·rw[List.mem_singleton.1 hi];exact hc
 ·rcases List.mem_append.1 hi with hi|hi
  ·have:=h.ids i hi;omega
  ·rw[List.mem_singleton.1 hi];simp
 ·rw[List.map_append,List.nodup_append];refine⟨h.nd,by simp,fun a ha b hb=> ?_⟩;obtain⟨i,hi,rfl⟩:=List.mem_map.1 ha;have:=h.ids i hi;simp at hb;omega
 ·have:itFoot ib mb (its++[⟨given+1,cb,⟨0,0,false⟩⟩])=itFoot ib mb its++[cb]:=by simp[itFoot]
  rw[this,List.nodup_append];refine⟨h.nf,by simp,fun a ha b hb=> ?_⟩;have:=hl a ha;simp at hb;omega
theorem iters_Open (h:ItAt w ib mb most given its)(hlt:its.length<most)(hg:given≤100000):Calls Tryz.prog 44 #[.pointer (some ⟨ib,0,none⟩)] w fun y w'=>∃cb,w.heap.size≤cb∧y= .returned (.tuple #[.int .i64 ((given+1:Nat):Int),.nilIface])∧ItAt w' ib mb most (given+1) (its++[⟨given+1,cb,⟨0,0,false⟩⟩])∧Mod [ib,mb] w w':=by
 obtain⟨c0,c1,c2⟩:=h.blk.c3;have f1:=h.blk.frozen 1;have hl:=lenMap (h.map.mod (Mod.of_below (Below.refl w.heap.size w).drew []) (by simp)) 3
 have hll:(itMap its).length=its.length:=by simp[itMap]
 rw[hll]at hl
 have hlt':¬(its.length:Int)≥(most:Int):=by omega
 have hw1:IntKind.i64.wrap ((given:Int)+1)=((given+1:Nat):Int):=by rw[IntKind.wrap_i64];omega
 have hnew:=((h.blk.set_ 1 (.int .i64 ((given:Int)+1)))).drew;have hm:=(((Mod.refl [ib] w).sl 1 (.int .i64 ((given:Int)+1)))).then (Mod.of_below (Below.refl _ _).drew [ib]);simp only[pt]at hnew
 have hmi:mb∉[ib]:=fun hh=>by have:=h.nf;unfold itFoot at this;rw[List.nodup_cons]at this;exact this.1 (by rw[List.mem_singleton.1 hh];simp)
 have HNw:=qd (And.intro hnew (And.intro hm (h.map.mod hm hmi)));have HH:=qd h;have HLt:=qd hlt;have HMi:=qd hmi;clear h hnew hm hmi hlt;go_in;go_upto_region 1 with fail;go_region;go_upto_region 4 with fail;refine nameW (F:=fun v=>Blk v ib 128 #[.int .i64 (most:Int),.int .i64 ((given:Int)+1),.map (some mb)]∧Mod [ib] w v∧MapL v mb given (itMap its)) HNw.out ?_;clear HNw c0 c1 c2 f1 hl hll;rintro W ⟨hb,hm,hmp⟩;have HB:=qd hb;have HM:=qd hm;have HP:=qd hmp;clear hb hm hmp;have c1:=HB.out.cell 1;have c2:=HB.out.cell 2;simp only[gl]at c1 c2;refine rT (fun(w':World)=>w'.cell? ⟨ib,1,none⟩=some (.int .i64 ((given:Int)+1))∧w'.cell? ⟨ib,2,none⟩=some (.map (some mb))) [9] ?_;have hHeld:=(⟨c1,c2⟩:_∧_);refine vW 0 rfl ?_;refine vW 1 rfl ?_;refine vW 2 rfl ?_;refine vT 3 rfl ?_;refine vW 4 rfl ?_;refine vW 5 rfl ?_;refine vW 6 rfl ?_;refine vT 7 rfl ?_;refine nT 8 rfl fun K hK=> ?_;go_simp;refine(cursor_New _).mono ?_;rintro y W1 ⟨rfl,hcu,hb⟩;have hsz:(World.drew W).heap.size=W.heap.size:=rfl;rw[hsz]at hcu hb⊢;replace hb:Below W.heap.size W W1:=below_nx hb (Below.refl _ _).drew;replace HB:=qB hb HB;replace HP:=qB hb HP;have HS:=qd (show w.heap.size≤W.heap.size from HM.out.size);replace HM:=qd (HM.out.then (Mod.of_below hb [ib]));have HC:=qd hcu;obtain⟨cb,hcb⟩:∃cb,cb=W.heap.size:=⟨_,rfl⟩;rw[←hcb]at HC HS⊢;clear hcu hb hsz c1 c2 hcb;have c1:=HB.out.cell 1;have c2:=HB.out.cell 2;simp only[gl]at c1 c2;go_wp2_with fail;have hHeld:=(⟨c1,c2⟩:_∧_);refine kO hK ?_;clear hK K
 refine nT 9 rfl fun K hK=> ?_
 have hput:=HP.out.put (P:=Tryz.prog) (t:=126) Tryz.underlying126 Tryz.underlying3 (by
  rw[findL_none];intro p hp;obtain⟨i,hi,rfl⟩:=List.mem_map.1 hp;have:=HH.out.ids i hi
  simp only;omega) cb
 have hms:=HP.out.set_ (itMap its++[(given+1,cb)]) (given+1);have hmm:=HP.out.mod_ (.map ((itMap its++[(given+1,cb)]).map mEnt).toArray (given+1))
 have hcm:cb∉[mb]:=fun hh=>by have:=HH.out.map.lt;rw[←List.mem_singleton.1 hh]at this;have:=HS.out;omega
 have him:ib∉[mb]:=fun hh=>HMi.out (by rw[List.mem_singleton.1 hh];simp);rw[show((given+1:Nat):Int)=(given:Int)+1 from by omega]at hput;obtain⟨W2,hW2⟩:∃W2,W2=setBlock W1 mb (.map ((itMap its++[(given+1,cb)]).map mEnt).toArray (given+1)):=⟨_,rfl⟩;rw[←hW2]at hput hms hmm;have HE:=qd (And.intro (HB.out.mod hmm him) (HH.out.opened HLt.out (HB.out.mod hmm him) hms (HC.out.mod hmm hcm) HS.out (HM.out.trans hmm (fun _ hk _=>by simp at hk⊢;exact .inl hk) (fun _ hk _=>by simp at hk⊢;exact .inr hk))));have HE2:=qd (HM.out.trans hmm (U:=[ib,mb]) (fun _ hk _=>by simp at hk⊢;exact .inl hk) (fun _ hk _=>by simp at hk⊢;exact .inr hk));clear hms hmm hcm him hW2 c1 c2;have c1:=HE.out.1.cell 1;simp only[gl]at c1;have HI:=qd (And.intro HE.out.2 HE2.out);clear HE HE2;go_simp;refine kO hK ?_;clear hK K;refine doneT (by kernel_rfl) ?_ _;go_wp2;refine bodyPost_ret (v:= .tuple #[.int .i64 ((given:Int)+1),.nilIface]) (by simp[results,Tryz.results44,go_sem]) rfl ⟨cb,HS.out,rfl,HI.out⟩
end
end
section
variable {GC' S : List Nat}
def rtFoot (b:Nat)(C:RmC)(GC:List Nat)(mb:Nat)(its:List It):List Nat:=b::(itFoot C.ib mb its++GC)
structure RtS (W0:World)(E:Nat→Addr)(H:Nat→Nat)(K M I b:Nat)(G0:List Nat)(w0:World)(C:RmC)(GC:List Nat)(mb gv:Nat)(w:World)(a:Pool)(ids:List Nat)(its:List It):Prop where
 blk:RmB w b C
 cfg:C.k=(K:Int)∧C.m=(M:Int)∧C.i=(I:Int)
 core:CoreAt W0 E H K M C.cb GC w a ids
 itr:ItAt w C.ib mb I gv its
 b0:W0.heap.size≤b∧∀q∈itFoot C.ib mb its,W0.heap.size≤q
 apart:b∉GC∧b∉itFoot C.ib mb its∧∀q∈itFoot C.ib mb its,q∉GC
 sub:∀q∈rtFoot b C GC mb its,q∈G0∨w0.heap.size≤q
 mod:Mod G0 w0 w
 le0:W0.heap.size≤w0.heap.size
theorem mem_rtFoot {b:Nat}{C:RmC}{GC:List Nat}{mb:Nat}{its:List It}{q:Nat}:q∈rtFoot b C GC mb its↔q=b∨q∈itFoot C.ib mb its∨q∈GC:=by unfold rtFoot;simp
section
variable {W0 : World} {E : Nat → Addr} {H : Nat → Nat} {K M I b : Nat} {G0 : List Nat} {w0 : World} {C C' : RmC} {GC : List Nat} {mb gv gv' : Nat} {w w' : World} {a a' : Pool} {ids ids' : List Nat} {its its' : List It}
theorem RtS.lts (h:RtS W0 E H K M I b G0 w0 C GC mb gv w a ids its):∀q∈rtFoot b C GC mb its,q<w.heap.size∧W0.heap.size≤q:=fun q hq=>by
 rcases mem_rtFoot.1 hq with rfl|hq|hq
 ·exact⟨h.blk.lt,h.b0.1⟩
 ·exact⟨h.itr.lts q hq,h.b0.2 q hq⟩
 ·exact h.core.facts.2.2.2.2.2.2.2.2.2.2.1 q hq
theorem RtS.kk (h:RtS W0 E H K M I b G0 w0 C GC mb gv w a ids its):1≤C.k∧C.k≤64:=by
 have:=h.core.facts.2.2.2.2.2.2.2.2.1;rw[h.cfg.1];omega
theorem RtS.mod_ (h:RtS W0 E H K M I b G0 w0 C GC mb gv w a ids its)(hm:Mod S w w')(hS:∀q∈S,q∉rtFoot b C GC mb its∧w0.heap.size≤q):RtS W0 E H K M I b G0 w0 C GC mb gv w' a ids its:=by
 have h1:∀q∈rtFoot b C GC mb its,q∉S:=fun q hq hs=>(hS q hs).1 hq;exact⟨h.blk.mod hm (h1 b (mem_rtFoot.2 (.inl rfl))),h.cfg,h.core.mod hm (fun q hq=>⟨fun hg=>(hS q hq).1 (mem_rtFoot.2 (.inr (.inr hg))),Nat.le_trans h.le0 (hS q hq).2⟩),h.itr.mod hm (fun q hq=>h1 q (mem_rtFoot.2 (.inr (.inl hq)))),h.b0,h.apart,h.sub,h.mod.trans hm (fun _ hk _=>hk) (fun k hk hl=>absurd (hS k hk).2 (by omega)),h.le0⟩
theorem RtS.below (h:RtS W0 E H K M I b G0 w0 C GC mb gv w a ids its)(hb:Below w.heap.size w w'):RtS W0 E H K M I b G0 w0 C GC mb gv w' a ids its:=h.mod_ (Mod.of_below hb []) (by simp)
theorem RtS.setB (h:RtS W0 E H K M I b G0 w0 C GC mb gv w a ids its)(hB:RmB w' b C')(hm:Mod [b] w w')(hk:C'.k=C.k∧C'.m=C.m∧C'.i=C.i∧C'.cb=C.cb∧C'.ib=C.ib):RtS W0 E H K M I b G0 w0 C' GC mb gv w' a ids its:=by
 obtain⟨k1,k2,k3,k4,k5⟩:=hk;refine⟨hB,by rw[k1,k2,k3];exact h.cfg,by rw[k4];exact h.core.mod hm (fun q hq=>by rw[List.mem_singleton.1 hq];exact⟨h.apart.1,h.b0.1⟩),by rw[k5];exact h.itr.mod hm (fun q hq hs=>h.apart.2.1 (List.mem_singleton.1 hs▸hq)),by rw[k5];exact h.b0,by rw[k5];exact h.apart,fun q hq=>h.sub q (by rw[mem_rtFoot]at hq⊢;rw[k5]at hq;exact hq),h.mod.trans hm (fun _ hk _=>hk) (fun k hk hl=> ?_),h.le0⟩;rcases h.sub b (mem_rtFoot.2 (.inl rfl))with h1|h1
 ·rw[List.mem_singleton.1 hk];exact h1
 ·rw[List.mem_singleton.1 hk]at hl;omega
theorem Mod.within (h:Mod G0 w0 w)(hm:Mod S w w')(hs:∀q∈S,q∈G0∨w0.heap.size≤q):Mod G0 w0 w':=h.trans hm (fun _ hk _=>hk) fun k hk hl=>(hs k hk).elim id fun h1=>absurd h1 (by omega)
theorem RtS.setC' (h:RtS W0 E H K M I b G0 w0 C GC mb gv w a ids its)(h1:CoreAt W0 E H K M C.cb GC' w' a' ids')(h2:∀q∈GC',q∈GC∨w.heap.size≤q)(h3:Mod GC w w'):RtS W0 E H K M I b G0 w0 C GC' mb gv w' a' ids' its:=by
 have hbl:=h.blk.lt;have hil:=h.itr.lts;refine⟨h.blk.mod h3 h.apart.1,h.cfg,h1,h.itr.mod h3 h.apart.2.2,h.b0,⟨fun hg=> ?_,h.apart.2.1,fun q hq hg=> ?_⟩,fun q hq=> ?_,h.mod.within h3 (fun q hq=>h.sub q (mem_rtFoot.2 (.inr (.inr hq)))),h.le0⟩
 ·rcases h2 b hg with k|k
  ·exact h.apart.1 k
  ·omega
 ·rcases h2 q hg with k|k
  ·exact h.apart.2.2 q hq k
  ·have:=hil q hq;omega
 ·rcases mem_rtFoot.1 hq with k|k|k
  ·exact h.sub q (mem_rtFoot.2 (.inl k))
  ·exact h.sub q (mem_rtFoot.2 (.inr (.inl k)))
  ·rcases h2 q k with k|k
   ·exact h.sub q (mem_rtFoot.2 (.inr (.inr k)))
   ·have:=h.mod.size;exact .inr (by omega)
theorem RtS.setC (h:RtS W0 E H K M I b G0 w0 C GC mb gv w a ids its)(hc:CoreTo W0 E H K M C.cb GC w w' a' ids'):∃GC',RtS W0 E H K M I b G0 w0 C GC' mb gv w' a' ids' its∧(∀q∈GC',q∈GC∨w.heap.size≤q)∧Mod GC w w':=by
 obtain⟨GC',h1,h2,h3⟩:=hc;exact⟨GC',h.setC' h1 h2 h3,h2,h3⟩
theorem RtS.setI (h:RtS W0 E H K M I b G0 w0 C GC mb gv w a ids its)(hi:ItAt w' C.ib mb I gv' its')(hm:Mod S w w')(hS:∀q∈S,q∈itFoot C.ib mb its∨(q∉rtFoot b C GC mb its∧w0.heap.size≤q))(hn:∀q∈itFoot C.ib mb its',q∈itFoot C.ib mb its∨w.heap.size≤q):RtS W0 E H K M I b G0 w0 C GC mb gv' w' a ids its':=by
 have hbl:=h.blk.lt;have hcl:=h.core.facts.2.2.2.2.2.2.2.2.2.2.1;have hen:=h.core.facts.2.2.2.2.2.2.2.2.2.2.2.size;refine⟨h.blk.mod hm (fun hs=> ?_),h.cfg,h.core.mod hm (fun q hq=> ?_),hi,⟨h.b0.1,fun q hq=> ?_⟩,⟨h.apart.1,fun hq=> ?_,fun q hq hg=> ?_⟩,fun q hq=> ?_,h.mod.within hm (fun q hq=> ?_),h.le0⟩
 ·rcases hS b hs with k|k
  ·exact h.apart.2.1 k
  ·exact k.1 (mem_rtFoot.2 (.inl rfl))
 ·rcases hS q hq with k|k
  ·exact⟨h.apart.2.2 q k,h.b0.2 q k⟩
  ·exact⟨fun hg=>k.1 (mem_rtFoot.2 (.inr (.inr hg))),Nat.le_trans h.le0 k.2⟩
 ·rcases hn q hq with k|k
  ·exact h.b0.2 q k
  ·omega
 ·rcases hn b hq with k|k
  ·exact h.apart.2.1 k
  ·omega
 ·rcases hn q hq with k|k
  ·exact h.apart.2.2 q k hg
  ·have:=(hcl q hg).1;omega
 ·rcases mem_rtFoot.1 hq with k|k|k
  ·exact h.sub q (mem_rtFoot.2 (.inl k))
  ·rcases hn q k with k|k
   ·exact h.sub q (mem_rtFoot.2 (.inr (.inl k)))
   ·have:=h.mod.size;exact .inr (by omega)
  ·exact h.sub q (mem_rtFoot.2 (.inr (.inr k)))
 ·rcases hS q hq with k|k
  ·exact h.sub q (mem_rtFoot.2 (.inr (.inl k)))
  ·exact .inr k.2
theorem RtS.again (h:RtS W0 E H K M I b G0 w0 C GC mb gv w a ids its):RtS W0 E H K M I b (rtFoot b C GC mb its) w C GC mb gv w a ids its:=⟨h.blk,h.cfg,h.core,h.itr,h.b0,h.apart,fun q hq=> .inl hq,Mod.refl _ _,by have:=h.core.facts.2.2.2.2.2.2.2.2.2.2.2.size;exact this⟩
theorem RtS.chain {mb':Nat}(h:RtS W0 E H K M I b G0 w0 C GC mb gv w a ids its)(k:RtS W0 E H K M I b (rtFoot b C GC mb its) w C' GC' mb' gv' w' a' ids' its'):RtS W0 E H K M I b G0 w0 C' GC' mb' gv' w' a' ids' its':=
 ⟨k.blk,k.cfg,k.core,k.itr,k.b0,k.apart,fun q hq=>(k.sub q hq).elim (fun g=>h.sub q g) (fun g=> .inr (by have:=h.mod.size;omega)),h.mod.within k.mod h.sub,h.le0⟩
end
def RtAt (W0:World)(E:Nat→Addr)(H:Nat→Nat)(K M I b:Nat)(G:List Nat)(w:World)(a:Pool)(ids:List Nat)(its:List It)(gv:Nat)(lst:Cnt):Prop:=
 ∃(C:RmC) (GC:List Nat) (mb:Nat),RtS W0 E H K M I b (rtFoot b C GC mb its) w C GC mb gv w a ids its∧G=rtFoot b C GC mb its∧C.last=lst
def RtTo (W0:World)(E:Nat→Addr)(H:Nat→Nat)(K M I b:Nat)(G:List Nat)(w w':World)(a':Pool)(ids':List Nat)(its':List It)(gv':Nat)(lst':Cnt):Prop:=
 ∃G',RtAt W0 E H K M I b G' w' a' ids' its' gv' lst'∧(∀q∈G',q∈G∨w.heap.size≤q)∧Mod G w w'
section
variable {W0 : World} {E : Nat → Addr} {H : Nat → Nat} {K M I b : Nat} {G G0 : List Nat} {w0 w w' : World} {C : RmC} {GC : List Nat} {mb gv gv' : Nat} {a a' : Pool} {ids ids' : List Nat} {its its' : List It} {lst lst' : Cnt}
theorem RtS.to (h:RtS W0 E H K M I b G w C GC mb gv w' a' ids' its'):RtTo W0 E H K M I b G w w' a' ids' its' gv C.last:=⟨_,⟨C,GC,mb,h.again,rfl,rfl⟩,h.sub,h.mod⟩
theorem RtAt.mod (h:RtAt W0 E H K M I b G w a ids its gv lst)(hm:Mod S w w')(hS:∀q∈S,q∉G∧W0.heap.size≤q):RtAt W0 E H K M I b G w' a ids its gv lst:=by
 obtain⟨C,GC,mb,h1,rfl,h2⟩:=h;have k1:∀q∈rtFoot b C GC mb its,q∉S:=fun q hq hs=>(hS q hs).1 hq;have h3:RtS W0 E H K M I b (rtFoot b C GC mb its) w' C GC mb gv w' a ids its:=⟨h1.blk.mod hm (k1 b (mem_rtFoot.2 (.inl rfl))),h1.cfg,h1.core.mod hm (fun q hq=>⟨fun hg=>(hS q hq).1 (mem_rtFoot.2 (.inr (.inr hg))),(hS q hq).2⟩),h1.itr.mod hm (fun q hq=>k1 q (mem_rtFoot.2 (.inr (.inl hq)))),h1.b0,h1.apart,fun q hq=> .inl hq,Mod.refl _ _,by have:=h1.le0;have:=hm.size;omega⟩;exact⟨C,GC,mb,h3,rfl,h2⟩
theorem RtAt.below (h:RtAt W0 E H K M I b G w a ids its gv lst)(hb:Below w.heap.size w w'):RtAt W0 E H K M I b G w' a ids its gv lst:=h.mod (Mod.of_below hb []) (by simp)
theorem RtAt.facts (h:RtAt W0 E H K M I b G w a ids its gv lst):(∀q∈G,q<w.heap.size∧W0.heap.size≤q)∧(a.ents.map Ent.key).Nodup∧a.ents.length≤M∧M≤192∧a.Ns.length≤32∧1≤a.Ns.length∧(its.map It.id).Nodup∧its.length≤I∧I≤8∧Env W0 E w:=by
 obtain⟨C,GC,mb,h1,rfl,h2⟩:=h;obtain⟨_,_,f3,f4,_,_,f7,f8,_,f10,_,f12⟩:=h1.core.facts;exact⟨h1.lts,f10,f7,f8,f3,f4,h1.itr.nd,h1.itr.few.2,h1.itr.few.1,f12⟩
theorem RtTo.next (h:RtTo W0 E H K M I b G w w' a' ids' its' gv' lst'){w2:World}(hb:Below w'.heap.size w' w2):RtTo W0 E H K M I b G w w2 a' ids' its' gv' lst':=by
 obtain⟨G',h1,h2,h3⟩:=h;exact⟨G',h1.below hb,h2,h3.then (Mod.of_below hb _)⟩
theorem rt_Len (h:RtAt W0 E H K M I b G w a ids its gv lst):Calls Tryz.prog 21 #[.pointer (some ⟨b,0,none⟩)] w fun y w'=>y= .returned (.int .i64 (a.ents.length:Int))∧w=w':=by
 obtain⟨C,GC,mb,hS,rfl,hlst⟩:=h;have hbk:=hS.blk.blk;unfold RmC.cells at hbk;have c3:=hbk.cell 3;simp only[gl]at c3;have HL:=qd (at_Len hS.core);unfold coreP at HL;clear hbk hS hlst;go_in;go_wp2_with fail;refine HL.out.mono ?_;rintro y w1 ⟨rfl,rfl⟩;go_wp2;go_ret;exact⟨rfl,rfl⟩
theorem rt_Open (h:RtAt W0 E H K M I b G w a ids its gv lst)(hlt:its.length<I)(hg:gv≤100000):Calls Tryz.prog 20 #[.pointer (some ⟨b,0,none⟩)] w fun y w'=>∃cb,y= .returned (.tuple #[.int .i64 ((gv+1:Nat):Int),.nilIface])∧RtTo W0 E H K M I b G w w' a ids (its++[⟨gv+1,cb,⟨0,0,false⟩⟩]) (gv+1) lst:=by
 obtain⟨C,GC,mb,hS,rfl,hlst⟩:=h;have hbk:=hS.blk.blk;unfold RmC.cells at hbk;have c16:=hbk.cell 16;simp only[gl]at c16;have hop:=iters_Open hS.itr hlt hg;have HO:=qd hop;have HS:=qd hS;have HQ:=qd hlst;clear hbk hS hop hlst;go_in;go_wp2_with fail;refine HO.out.mono ?_;rintro y w1 ⟨cb,hcb,rfl,hi,hm⟩
 have hs:=HS.out.setI hi hm (fun q hq=> .inl (by unfold itFoot;simp at hq⊢;rcases hq with k|k;exact .inl k;exact .inr (.inl k))) (fun q hq=>by
  unfold itFoot at hq⊢;simp only[List.map_append,List.mem_cons,List.mem_append,List.map_cons,List.map_nil,List.not_mem_nil,or_false]at hq⊢;rcases hq with k|k|k|k
  ·exact .inl (.inl k)
  ·exact .inl (.inr (.inl k))
  ·exact .inl (.inr (.inr k))
  ·exact .inr (k▸hcb))
 have HE:=qd (show RtTo W0 E H K M I b (rtFoot b C GC mb its) w w1 a ids (its++[⟨gv+1,cb,⟨0,0,false⟩⟩]) (gv+1) lst from HQ.out▸hs.to);clear hs hi hm hcb HO;go_wp2;refine bodyPost_ret (v:= .tuple #[.int .i64 ((gv:Int)+1),.nilIface]) (by simp[results,Tryz.results20,go_sem]) rfl ⟨cb,rfl,HE.out⟩
end
def CloP (W0:World)(E:Nat→Addr)(H:Nat→Nat)(K M I b:Nat)(G0:List Nat)(w0:World)(C:RmC)(GC:List Nat)(mb gv:Nat)(its:List It)(R:Pool→List Nat→Prop)(pr:Nat)(t:TypeId)(v:Value)(V w':World):Prop:=
 ∃GC' a' ids',RtS W0 E H K M I b G0 w0 C GC' mb gv w' a' ids' its∧R a' ids'∧Blk w' pr t #[v]∧(∀q∈GC',q∈GC∨V.heap.size≤q)∧Mod (pr::GC) V w'
theorem errV_form (E:Nat→Addr)(k:Nat):errV E k= .nilIface∨∃A,errV E k= .iface 323 (.pointer (some A)):=by
 unfold errV;split
 ·exact .inl rfl
 ·exact .inr ⟨_,rfl⟩
theorem put_clo {W0:World}{E:Nat→Addr}{H:Nat→Nat}{Kk M I b:Nat}{G0:List Nat}{w0 V:World}{C:RmC}{GC:List Nat}{mb gv:Nat}{a:Pool}{ids:List Nat}{its:List It}{pm pk pv ph pr:Nat}{e:Ent}(hS:RtS W0 E H Kk M I b G0 w0 C GC mb gv V a ids its)(hm:Blk V pm 34 #[.pointer (some ⟨b,0,none⟩)])(hk:Blk V pk 27 #[.int .u64 (e.key:Int)])(hv:Blk V pv 27 #[.int .u64 (e.val:Int)])(hh:Blk V ph 27 #[.int .u64 (e.hash:Int)])(hr:Blk V pr 31 #[.nilIface])(hne:pr∉rtFoot b C GC mb its∧w0.heap.size≤pr)(he:EntOk H e):Calls Tryz.prog 28 #[.pointer (some ⟨pm,0,none⟩),.pointer (some ⟨pk,0,none⟩),.pointer (some ⟨pv,0,none⟩),.pointer (some ⟨ph,0,none⟩),.pointer (some ⟨pr,0,none⟩)] V fun y w'=>y= .returned undef∧CloP W0 E H Kk M I b G0 w0 C GC mb gv its (PutR H Kk M a ids e) pr 31 (errV E (putC M a.ents e.key)) V w':=by
 have hbk:=hS.blk.blk;unfold RmC.cells at hbk;have c3:=hbk.cell 3;simp only[gl]at c3;have xm:=hm.cell 0;have xk:=hk.cell 0;have xv:=hv.cell 0;have xh:=hh.cell 0;simp only[List.getElem?_toArray,List.getElem?_cons_zero]at xm xk xv xh;have HS:=qd hS;have HRs:=qd hr;have HNe:=qd hne;have HE:=qd he;have hdr:=(Below.refl V.heap.size V).drew;have hcl:=at_putW (hS.core.below hdr) e he;unfold coreP at hcl;obtain⟨ev,hev⟩:∃ev,ev=errV E (putC M a.ents e.key):=⟨_,rfl⟩;have hone:ev= .nilIface∨∃A,ev= .iface 323 (.pointer (some A)):=hev▸errV_form E _;rw[←hev]at hcl⊢;have HEv:=qd hone;clear hone;have HCl:=qd hcl;clear hcl hev hbk hS hr hne he hdr hm hk hv hh;go_in;refine rT (fun(w':World)=>w'.cell? ⟨pm,0,none⟩=some (.pointer (some ⟨b,0,none⟩))∧w'.cell? ⟨pk,0,none⟩=some (.int .u64 (e.key:Int))∧w'.cell? ⟨pv,0,none⟩=some (.int .u64 (e.val:Int))∧w'.cell? ⟨ph,0,none⟩=some (.int .u64 (e.hash:Int))∧w'.cell? ⟨b,3,none⟩=some (.pointer (some ⟨C.cb,0,none⟩))) [7,8] ?_;have hHeld:=(⟨xm,xk,xv,xh,c3⟩:_∧_∧_∧_∧_);refine vT 4 rfl ?_;refine vT 5 rfl ?_;refine vT 6 rfl ?_;refine nT 0 rfl fun K hK=> ?_;go_simp;refine kO hK ?_;clear hK K;refine vW 1 rfl ?_;refine vW 2 rfl ?_;refine vT 3 rfl ?_;refine nT 7 rfl fun K hK=> ?_;go_simp;refine HCl.out.mono ?_;rintro y V1 ⟨rfl,a',ids',hto,hpm⟩;obtain⟨GC',hS1,hsub,hmod⟩:=(HS.out.below (Below.refl V.heap.size V).drew).setC hto;have HS1:=qd hS1;have HPm:=qd hpm;have hmod2:Mod GC V V1:=(Mod.of_below (Below.refl V.heap.size V).drew GC).then hmod
 have HSu:=qd (show∀q∈GC',q∈GC∨V.heap.size≤q from hsub);have hpl:=HRs.out.lt;have hr1:=(HRs.out.mod hmod2 (fun hg=>HNe.out.1 (mem_rtFoot.2 (.inr (.inr hg)))));have HR1:=qd hr1;have HMo:=qd hmod2;have HPl:=qd hpl;clear hto hpm hS1 hsub hmod hmod2 hr1 hpl HCl;go_wp2_with fail;refine kO hK ?_;clear hK K;refine nT 8 rfl fun K hK=> ?_;have r0:=HR1.out.cell 0;simp only[List.getElem?_toArray,List.getElem?_cons_zero]at r0;have rf:=HR1.out.frozen 0;have hn2:=HR1.out.set_ 0 (ev);have hm2:=(Mod.refl [pr] V1).sl 0 (ev);simp only[List.setIfInBounds_toArray,List.set_cons_zero]at hn2
 have hfr:∀q∈[pr],q∉rtFoot b C GC' mb its∧w0.heap.size≤q:=fun q hq=>by
  rw[List.mem_singleton.1 hq];refine⟨fun hg=> ?_,HNe.out.2⟩;rcases mem_rtFoot.1 hg with k|k|k
  ·exact HNe.out.1 (mem_rtFoot.2 (.inl k))
  ·exact HNe.out.1 (mem_rtFoot.2 (.inr (.inl k)))
  ·rcases HSu.out pr k with k|k
   ·exact HNe.out.1 (mem_rtFoot.2 (.inr (.inr k)))
   ·have:=HPl.out;omega
 have HF:=qd (show CloP W0 E H Kk M I b G0 w0 C GC mb gv its (PutR H Kk M a ids e) pr 31 (ev) V (V1.setCell ⟨pr,0,none⟩ (ev))from⟨GC',a',ids',HS1.out.mod_ hm2 hfr,HPm.out,hn2,HSu.out,(HMo.out.more (fun q hq=>List.mem_cons_of_mem _ hq)).then (hm2.more (fun q hq=>by rw[List.mem_singleton.1 hq];simp))⟩);clear hn2 hm2 hfr;rcases HEv.out with hv|⟨A,hv⟩
 all_goals
  subst hv;go_simp;refine kO hK ?_;clear hK K;refine doneT (by kernel_rfl) ?_ _;go_wp2;go_end0;exact⟨rfl,HF.out⟩
end
section
section
variable {W0 : World} {E : Nat → Addr} {H : Nat → Nat} {Kk M I b : Nat} {G0 : List Nat} {w0 w w' : World} {C : RmC} {GC : List Nat} {mb gv : Nat} {a : Pool} {ids : List Nat} {its : List It}
theorem RtS.wrote (h:RtS W0 E H Kk M I b G0 w0 C GC mb gv w a ids its)(hw:Wrote w b C w'):∃C',RtS W0 E H Kk M I b G0 w0 C' GC mb gv w' a ids its∧Mod [b] w w'∧C'.cb=C.cb∧C'.ib=C.ib∧C'.lf≤C.lf:=by
 obtain⟨lf,gn,ma,ml,last,all,h1,h2,h3⟩:=hw;exact⟨_,h.setB h2 h3 ⟨rfl,rfl,rfl,rfl,rfl⟩,h3,rfl,rfl,h1⟩
end
theorem rt_Put {W0:World}{E:Nat→Addr}{H:Nat→Nat}{Kk M I b:Nat}{G:List Nat}{w:World}{a:Pool}{ids:List Nat}{its:List It}{gv:Nat}{lst:Cnt}(h:RtAt W0 E H Kk M I b G w a ids its gv lst)(e:Ent)(he:EntOk H e):Calls Tryz.prog 13 #[.pointer (some ⟨b,0,none⟩),.int .u64 (e.key:Int),.int .u64 (e.val:Int),.int .u64 (e.hash:Int)] w fun y w'=>y= .returned (errV E (putC M a.ents e.key))∧∃a' ids' lst',RtTo W0 E H Kk M I b G w w' a' ids' its gv lst'∧PutR H Kk M a ids e a' ids':=by
 obtain⟨C,GC,mb,hS,rfl,hlst⟩:=h;obtain⟨W,hW,hB,hBm,hBk,hBv,hBh,hBe⟩:=qX5 w 34 #[.pointer (some ⟨b,0,none⟩)] 27 #[.int .u64 (e.key:Int)] 27 #[.int .u64 (e.val:Int)] 27 #[.int .u64 (e.hash:Int)] 31 #[.nilIface];have hlt:=fun q hq=>(hS.lts q hq).1;have HNe:=qd (show∀q,w.heap.size≤q→q∉rtFoot b C GC mb its from fun q hq hg=>by have:=hlt q hg;omega);have HS:=qd (hS.below hB);have hsz:=hB.size;have HBm:=qd hBm;have HBk:=qd hBk;have HBv:=qd hBv;have HBh:=qd hBh;have HBe:=qd hBe;have hWl:=hBe.lt;have HW:=qd hW;have HE:=qd he;clear hW hB hS hlt hBm hBk hBv hBh hBe;have hmf:∀(fn:Fn) (first cap:Array Value) (w:World),(Instr.makeFunc fn first cap).run Tryz.prog w= .ok (.func fn first cap) w:=fun _ _ _ _=>rfl;have hBc:=(Below.refl W.heap.size W).alloc (Nat.le_refl _) (.cells #[.nilIface] 31)
 have HCt:=qd (trap_Catch (S:=(w.heap.size+1+1+1+1)::GC) (K:=fun w1=>CloP W0 E H Kk M I b (rtFoot b C GC mb its) w C GC mb gv its (PutR H Kk M a ids e) (w.heap.size+1+1+1+1) 31 (errV E (putC M a.ents e.key)) (W.alloc (.cells #[.nilIface] 31)) w1) 28 #[.pointer (some ⟨w.heap.size,0,none⟩),.pointer (some ⟨(w.heap.size+1),0,none⟩),.pointer (some ⟨(w.heap.size+1+1),0,none⟩),.pointer (some ⟨(w.heap.size+1+1+1),0,none⟩),.pointer (some ⟨(w.heap.size+1+1+1+1),0,none⟩)] W (fun V=>enters_of Tryz.func28 (by kernel_rfl) rfl _ V)
  (fun hg=>by
   rcases List.mem_cons.1 hg with k|k
   ·omega
   ·exact HNe.out _ (by omega) (mem_rtFoot.2 (.inr (.inr k))))
  ((put_clo (HS.out.below hBc) (HBm.out.mod (Mod.of_below hBc []) (by simp)) (HBk.out.mod (Mod.of_below hBc []) (by simp)) (HBv.out.mod (Mod.of_below hBc []) (by simp)) (HBh.out.mod (Mod.of_below hBc []) (by simp)) (HBe.out.mod (Mod.of_below hBc []) (by simp)) ⟨HNe.out _ (by omega),by omega⟩ HE.out).mono (fun y w1 hh=>⟨hh.1,(by obtain⟨_,_,_,_,_,_,_,q⟩:=hh.2;exact q),hh.2⟩)))
 have HBc:=qd hBc;clear hBc;go_in;go_upto_region 2 with fail;rw[←HW.out];go_wp2_with fail;refine HCt.out.mono ?_;rintro y w1 ⟨rfl,hm1,GC',a',ids',hS1,hpm,hr1,hsu,hm2⟩;have HS:=qd hS1;have HPm:=qd hpm;have HR:=qd hr1
 have hx1:=(HBm.out.mod (Mod.of_below HBc.out []) (by simp)).mod hm1 (fun hg=>by
  rcases List.mem_cons.1 hg with k|k
  ·omega
  ·exact HNe.out _ (Nat.le_refl _) (mem_rtFoot.2 (.inr (.inr k))))
 have HX:=qd hx1;have HNb:=qd (show(w.heap.size+1+1+1+1)∉[b]from fun hg=>HNe.out _ (by omega) (mem_rtFoot.2 (.inl (List.mem_singleton.1 hg))));clear hm1 hS1 hpm hr1 hsu hm2 hx1 HCt HBm HBk HBv HBh HBe HBc
 cases hfu:fullB M a.ents e.key with
 |false=>
  have hpc:putC M a.ents e.key=0:=by unfold putC;rw[hfu];rfl
  rw[hpc]at HR;have HP0:=qd hpc;clear hpc;rw[errV_zero]at HR;have r0:=HR.out.cell 0;simp only[List.getElem?_toArray,List.getElem?_cons_zero]at r0;go_upto_region 8 with fail;clear r0;obtain⟨cc,hcc⟩:=HS.out.core.c_;have hbk:=HS.out.blk.blk;unfold RmC.cells at hbk;have c3:=hbk.cell 3;simp only[gl]at c3;have x0:=HX.out.cell 0;simp only[List.getElem?_toArray,List.getElem?_cons_zero]at x0;have HLs:=qd (at_Last (hcc.below (Below.refl w1.heap.size w1).drew));unfold cntV at HLs;clear hbk hcc;refine rT (fun(w':World)=>w'.cell? ⟨w.heap.size,0,none⟩=some (.pointer (some ⟨b,0,none⟩))∧w'.cell? ⟨b,3,none⟩=some (.pointer (some ⟨C.cb,0,none⟩))) [7] ?_;have hHeld:=(⟨x0,c3⟩:_∧_);refine vT 0 rfl ?_;refine nT 1 rfl fun K hK=> ?_;go_simp;refine kO hK ?_;clear hK K;refine vW 2 rfl ?_;refine vW 3 rfl ?_;refine nT 4 rfl fun K hK=> ?_;go_simp;refine kO hK ?_;clear hK K;refine nT 5 rfl fun K hK=> ?_;go_simp;refine(core_Meter _ _).mono ?_;rintro y V1 ⟨rfl,rfl⟩;go_wp2_with fail;have hHeld:=(⟨x0,c3⟩:_∧_);refine kO hK ?_;clear hK K;refine nT 6 rfl fun K hK=> ?_;go_simp;refine(HLs.out).mono ?_;rintro y V2 ⟨rfl,hb⟩;replace hb:Below w1.heap.size w1 V2:=below_nx hb (Below.refl _ _).drew;replace HS:=qd (HS.out.below hb);replace x0:=cell_in hb x0;replace c3:=cell_in hb c3;clear hb HLs;go_wp2_with fail;have hHeld:=(⟨x0,c3⟩:_∧_);refine kO hK ?_;clear hK K;refine nT 7 rfl fun K hK=> ?_;go_simp
  have HWr:=qd (show Calls Tryz.prog 33 #[.pointer (some ⟨b,0,none⟩),.agg #[.int .i64 cc.p,.int .i64 cc.v,.int .i64 cc.u]] V2 _ from rm_wrote HS.out.blk HS.out.kk cc);refine(HWr.out).mono ?_;rintro y V3 ⟨rfl,hwr⟩;obtain⟨C3,hS3,q3,hcb3,hib3,hlf3⟩:=HS.out.wrote hwr;have HS3:=qd hS3;clear hS3 hwr q3 hcb3 hib3 hlf3 HWr HS x0 c3;go_wp2_with fail;refine kO hK ?_;clear hK K;refine doneT (by kernel_rfl) ?_ _;go_wp2;go_ret;exact⟨by rw[HP0.out];rfl,a',ids',_,HS3.out.to,HPm.out⟩
 |true=>
  have hpc:putC M a.ents e.key=2:=by unfold putC;rw[hfu];rfl
  rw[hpc]at HR;have HP0:=qd hpc;clear hpc;rw[errV_pos E (by omega:1≤2)]at HR;have r0:=HR.out.cell 0;simp only[List.getElem?_toArray,List.getElem?_cons_zero]at r0;go_upto_region 6 with fail;clear r0;obtain⟨cc,hcc⟩:=HS.out.core.c_;have hbk:=HS.out.blk.blk;unfold RmC.cells at hbk;have c3:=hbk.cell 3;simp only[gl]at c3;have x0:=HX.out.cell 0;simp only[List.getElem?_toArray,List.getElem?_cons_zero]at x0;have HLs:=qd (at_Last (hcc.below (Below.refl w1.heap.size w1).drew));unfold cntV at HLs;clear hbk hcc;refine rT (fun(w':World)=>w'.cell? ⟨w.heap.size,0,none⟩=some (.pointer (some ⟨b,0,none⟩))∧w'.cell? ⟨b,3,none⟩=some (.pointer (some ⟨C.cb,0,none⟩))) [7] ?_;have hHeld:=(⟨x0,c3⟩:_∧_);refine vT 0 rfl ?_;refine nT 1 rfl fun K hK=> ?_;go_simp;refine kO hK ?_;clear hK K;refine vW 2 rfl ?_;refine vW 3 rfl ?_;refine nT 4 rfl fun K hK=> ?_;go_simp;refine kO hK ?_;clear hK K;refine nT 5 rfl fun K hK=> ?_;go_simp;refine(core_Meter _ _).mono ?_;rintro y V1 ⟨rfl,rfl⟩;go_wp2_with fail;have hHeld:=(⟨x0,c3⟩:_∧_);refine kO hK ?_;clear hK K;refine nT 6 rfl fun K hK=> ?_;go_simp;refine(HLs.out).mono ?_;rintro y V2 ⟨rfl,hb⟩;replace hb:Below w1.heap.size w1 V2:=below_nx hb (Below.refl _ _).drew;replace HS:=qd (HS.out.below hb);replace HR:=qB hb HR;replace x0:=cell_in hb x0;replace c3:=cell_in hb c3;clear hb HLs;go_wp2_with fail;have hHeld:=(⟨x0,c3⟩:_∧_);refine kO hK ?_;clear hK K;refine nT 7 rfl fun K hK=> ?_;go_simp
  have HWr:=qd (show Calls Tryz.prog 30 #[.pointer (some ⟨b,0,none⟩),.agg #[.int .i64 cc.p,.int .i64 cc.v,.int .i64 cc.u]] V2 _ from rm_count HS.out.blk cc);refine(HWr.out).mono ?_;rintro y V3 ⟨rfl,hwr,q3⟩;have HS3:=qd (HS.out.setB hwr q3 ⟨rfl,rfl,rfl,rfl,rfl⟩);replace HR:=qd (HR.out.mod q3 HNb.out);clear hwr q3 HWr HS x0 c3;go_wp2_with fail;refine kO hK ?_;clear hK K;refine doneT (by kernel_rfl) ?_ _;have r0:=HR.out.cell 0;simp only[List.getElem?_toArray,List.getElem?_cons_zero]at r0;go_wp2;go_ret;exact⟨by rw[HP0.out,errV_pos E (by omega:1≤2)];rfl,a',ids',_,HS3.out.to,HPm.out⟩
end
end Go.Proofs.YtchlkhkeonnmdacGreatDoor
