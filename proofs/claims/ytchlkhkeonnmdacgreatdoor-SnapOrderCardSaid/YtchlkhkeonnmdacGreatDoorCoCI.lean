/- A core in the heap: its block, its nodes' row, its scheduler, its pool. -/
import Derived.Test.YtchlkhkeonnmdacGreatDoorCoCF
import Derived.Test.YtchlkhkeonnmdacGreatDoorLaneP
namespace Go.Proofs.YtchlkhkeonnmdacGreatDoor
set_option maxRecDepth 100000
set_option maxHeartbeats 4000000
open Go.RowKit AmC
section
variable {F' S : List Nat} {x' : Mtr}
structure CPl where
 mb:Nat
 sb:Nat
 qb:Nat
 rb:Nat
 jb:Nat
 A:Adr
 v:Value
 K:Nat
 M:Nat
 I:Nat
 m:Int
structure CSt where
 a:Pool
 ids:List Nat
 len:Nat
 b:Int
 x:Mtr
def Adr.val (A:Adr)(id:Nat):Value:= .iface (A.jt id) (.pointer (some (A.ja id)))
def CPl.s (C:CPl):SP:=⟨C.sb,C.qb,C.rb,C.jb,(C.K:Int),C.A.val⟩
def copVal (A:Adr)(c:Option (Nat×List Nat)):Value:= .pointer (if c.isSome then some ⟨A.cb,0,none⟩else none)
def cmp (C:CPl)(st:CSt):MP:=⟨C.mb,125,[.int .i64 (C.K:Int),.int .i64 (C.M:Int),.int .i64 (C.I:Int)],[C.v,.pointer (some ⟨C.A.db,0,none⟩),copVal C.A st.a.cop,.pointer (some ⟨C.sb,0,none⟩),.int .i64 (st.len:Int)],3,C.m⟩
def CPl.foot (C:CPl)(F:List Nat):List Nat:=C.mb::(C.s.blocks++(F++C.v.ownBlock.toList))
def nodeRow (A:Adr)(n:Nat):List Value:=ptrs ((List.range n).map A.nb)
structure CoreF (W0:World)(E:Nat→Addr)(H:Nat→Nat)(C:CPl)(w0:World)(G0:List Nat)(w:World)(F:List Nat)(st:CSt):Prop where
 sch:SchSt W0 E (cmp C st) (PoolAt W0 C.mb H C.A) C.s w F w st.b st.ids st.a F st.x
 row:w.ownsRow W0.heap.size 113 1 C.v st.a.Ns.length (nodeRow C.A st.a.Ns.length)
 rap:RowAp (cmp C st) C.s F C.v
 pos:1≤st.a.Ns.length
 kk:1≤C.K∧C.K≤64
 mm:1≤C.M∧C.M≤192
 le0:W0.heap.size≤w0.heap.size
 sub:∀q∈C.foot F,q∈G0∨w0.heap.size≤q
 mod:Mod G0 w0 w
section
variable {W0 : World} {E : Nat → Addr} {H : Nat → Nat} {C : CPl} {w0 : World} {G0 : List Nat} {w w' : World} {F : List Nat} {st : CSt}
theorem CoreF.hp (h:CoreF W0 E H C w0 G0 w F st):PoolOk W0 E (cmp C st) C.A.jt C.A.ja (PoolAt W0 C.mb H C.A) Pool.can Pool.left (Pool.step H):=pool_ok (P:=cmp C st) C.A h.sch.mb0
theorem mem_foot {q:Nat}:q∈C.foot F↔q=C.mb∨q∈C.s.blocks∨q∈F∨C.v.ownBlock=some q:=by
 unfold CPl.foot;simp[eq_comm]
theorem CoreF.lts (h:CoreF W0 E H C w0 G0 w F st):∀q∈C.foot F,q<w.heap.size:=by
 intro q hq;have hl:=h.sch.lts h.hp;rcases mem_foot.1 hq with rfl|h1|h1|h1
 ·exact h.sch.met.lt
 ·exact hl q (by simp[h1])
 ·exact hl q (by simp[h1])
 ·exact(h.row.lt q h1).2
theorem CoreF.lows (h:CoreF W0 E H C w0 G0 w F st):∀q∈C.foot F,W0.heap.size≤q:=by
 intro q hq;rcases mem_foot.1 hq with rfl|h1|h1|h1
 ·exact h.sch.mb0
 ·exact(h.sch.apart q h1).2.2
 ·exact(h.hp.lt h.sch.pool q h1).2
 ·exact(h.row.lt q h1).1
theorem CoreF.upd2 (h:CoreF W0 E H C w0 G0 w F st)(A':Adr)(v':Value)(st':CSt)(hm:Mod S w w')(hS:∀q∈S,q∈C.foot F)(hsch:SchAt w' C.sb C.qb C.rb C.jb (C.K:Int) st'.b A'.val st'.ids)(hpool:PoolAt W0 C.mb H A' w' F' st'.a)(hmet:MetP w' (cmp {C with A:=A',v:=v'} st') st'.x)(hrow:w'.ownsRow W0.heap.size 113 1 v' st'.a.Ns.length (nodeRow A' st'.a.Ns.length))(hpos:1≤st'.a.Ns.length)(hF:∀q∈F',q∈F∨((q∈G0∨w0.heap.size≤q)∧q∉C.foot F))(hg:∀g,v'.ownBlock=some g→(C.v.ownBlock=some g∨w.heap.size≤g)∧(w.heap.size≤g→g∉F')):
  CoreF W0 E H {C with A:=A',v:=v'} w0 G0 w' F' st':=by
 have hl:=h.lts;have hbl:∀q∈C.s.blocks,q∈C.foot F:=fun q hq=>mem_foot.2 (.inr (.inl hq));refine⟨SchSt.start (P:=cmp {C with A:=A',v:=v'} st') (s:=({C with A:=A',v:=v'}:CPl).s) hsch hpool hmet (h.sch.env.mod hm (fun q hq=>h.lows q (hS q hq))) (fun q hq=> ?_) h.sch.mb0,hrow,fun g hgg hq=> ?_,hpos,h.kk,h.mm,h.le0,fun q hq=> ?_, ?_⟩
 ·have hq':q∈C.s.blocks:=hq;have ha:=h.sch.apart q hq';refine⟨fun hqF=> ?_,ha.2⟩;rcases hF q hqF with h1|h1
  ·exact ha.1 h1
  ·exact h1.2 (hbl q hq')
 ·obtain⟨h1,h2⟩:=hg g hgg
  have hq':g=C.mb∨g∈C.s.blocks∨g∈F':=by
   rcases List.mem_cons.1 hq with h3|h3
   ·exact .inl h3
   ·exact .inr (List.mem_append.1 h3)
  have hml:=h.sch.met.lt;have hml':C.mb<w.heap.size:=hml;rcases h1 with h1|h1
  ·have hr:=h.rap g h1;simp only[List.mem_cons,List.mem_append,not_or]at hr;rcases hq' with h3|h3|h3
   ·exact hr.1 h3
   ·exact hr.2.1 h3
   ·rcases hF g h3 with h4|h4
    ·exact hr.2.2 h4
    ·exact h4.2 (mem_foot.2 (.inr (.inr (.inr h1))))
  ·rcases hq' with h3|h3|h3
   ·omega
   ·have:=hl g (hbl g h3);omega
   ·exact h2 h1 h3
 ·have hz:=h.mod.size;rcases mem_foot.1 hq with h1|h1|h1|h1
  ·exact h.sub q (mem_foot.2 (.inl h1))
  ·exact h.sub q (mem_foot.2 (.inr (.inl h1)))
  ·rcases hF q h1 with h2|h2
   ·exact h.sub q (mem_foot.2 (.inr (.inr (.inl h2))))
   ·exact h2.1
  ·rcases(hg q h1).1 with h2|h2
   ·exact h.sub q (mem_foot.2 (.inr (.inr (.inr h2))))
   ·right;omega
 ·exact h.mod.trans hm (fun _ hh _=>hh) (fun q hq hlt=>by
   rcases h.sub q (hS q hq)with h1|h1
   ·exact h1
   ·omega)
theorem CoreF.upd (h:CoreF W0 E H C w0 G0 w F st)(A':Adr)(v':Value)(st':CSt)(hm:Mod S w w')(hS:∀q∈S,q∈C.foot F)(hsch:SchAt w' C.sb C.qb C.rb C.jb (C.K:Int) st'.b A'.val st'.ids)(hpool:PoolAt W0 C.mb H A' w' F' st'.a)(hmet:MetP w' (cmp {C with A:=A',v:=v'} st') st'.x)(hrow:w'.ownsRow W0.heap.size 113 1 v' st'.a.Ns.length (nodeRow A' st'.a.Ns.length))(hpos:1≤st'.a.Ns.length)(hF:∀q∈F',q∈F∨w.heap.size≤q)(hg:∀g,v'.ownBlock=some g→(C.v.ownBlock=some g∨w.heap.size≤g)∧(w.heap.size≤g→g∉F')):
  CoreF W0 E H {C with A:=A',v:=v'} w0 G0 w' F' st':=
 h.upd2 A' v' st' hm hS hsch hpool hmet hrow hpos (fun q hq=>(hF q hq).imp (fun hh=>hh) (fun hh=>⟨.inr (Nat.le_trans h.mod.size hh),fun hf=>by have:=h.lts q hf;omega⟩)) hg
theorem core_row (h:CoreF W0 E H C w0 G0 w F st)(hm:Mod S w w')(hS:∀q∈S,q=C.mb∨q∈C.s.blocks∨q∈F):w'.ownsRow W0.heap.size 113 1 C.v st.a.Ns.length (nodeRow C.A st.a.Ns.length):=
 own_far h.row hm (fun k hk hkS=>h.rap k hk (by
  show k∈C.mb::(C.s.blocks++F)
  rcases hS k hkS with h1|h1|h1<;>simp[h1]))
theorem rap_keep (h:CoreF W0 E H C w0 G0 w F st):∀g,C.v.ownBlock=some g→(C.v.ownBlock=some g∨w.heap.size≤g)∧(w.heap.size≤g→g∉F):=fun g hg=>⟨.inl hg,fun hh=>by have:=(h.row.lt g hg).2;omega⟩
theorem CoreF.below (h:CoreF W0 E H C w0 G0 w F st)(hb:Below w.heap.size w w'):CoreF W0 E H C w0 G0 w' F st:=
 h.upd C.A C.v st (S:=[]) (Mod.of_below hb []) (by simp) (h.sch.sch.mod (Mod.of_below hb []) (by simp)) (h.hp.stab h.sch.pool (Mod.of_below hb []) (by simp)) (h.sch.met.below hb) (core_row h (Mod.of_below hb []) (by simp)) h.pos (fun _ hq=> .inl hq) (rap_keep h)
theorem CoreF.met (h:CoreF W0 E H C w0 G0 w F st)(hM:MetP w' (cmp C st) x')(hm:Mod [C.mb] w w'):CoreF W0 E H C w0 G0 w' F {st with x:=x'}:=
 h.upd C.A C.v {st with x:=x'} hm (fun q hq=>mem_foot.2 (.inl (by simpa using hq))) (h.sch.sch.mod hm (fun q hq hqS=>(h.sch.apart q hq).2.1 (List.mem_singleton.1 hqS))) (h.hp.stab h.sch.pool hm (fun q hq hqS=>h.hp.mb h.sch.pool (by show C.mb∈F;rw[←List.mem_singleton.1 hqS];exact hq))) hM (core_row (st:=st) h hm (fun q hq=> .inl (List.mem_singleton.1 hq))) h.pos (fun _ hq=> .inl hq) (rap_keep h)
theorem CoreF.setLen (h:CoreF W0 E H C w0 G0 w F st)(n:Nat):CoreF W0 E H C w0 G0 (w.setCell ⟨C.mb,15,none⟩ (.int .i64 (n:Int))) F {st with len:=n}:=by
 have hm:Mod [C.mb] w (w.setCell ⟨C.mb,15,none⟩ (.int .i64 (n:Int))):=(Mod.refl _ w).set_ (.inl (by simp)) _ _;refine h.upd C.A C.v {st with len:=n} hm (fun q hq=>mem_foot.2 (.inl (by simpa using hq))) (h.sch.sch.mod hm (fun q hq hqS=>(h.sch.apart q hq).2.1 (List.mem_singleton.1 hqS))) (h.hp.stab h.sch.pool hm (fun q hq hqS=>h.hp.mb h.sch.pool (by show C.mb∈F;rw[←List.mem_singleton.1 hqS];exact hq))) ⟨rfl, ?_⟩ (core_row (st:=st) h hm (fun q hq=> .inl (List.mem_singleton.1 hq))) h.pos (fun _ hq=> .inl hq) (rap_keep h)
 exact Met.blk h.sch.met|>.set_ 15 _
theorem CoreF.cells (h:CoreF W0 E H C w0 G0 w F st):w.cell? ⟨C.mb,0,none⟩=some (.int .i64 (C.K:Int))∧w.cell? ⟨C.mb,1,none⟩=some (.int .i64 (C.M:Int))∧w.cell? ⟨C.mb,11,none⟩=some C.v∧w.cell? ⟨C.mb,12,none⟩=some (.pointer (some ⟨C.A.db,0,none⟩))∧w.cell? ⟨C.mb,13,none⟩=some (copVal C.A st.a.cop)∧w.cell? ⟨C.mb,14,none⟩=some (.pointer (some ⟨C.sb,0,none⟩))∧w.cell? ⟨C.mb,15,none⟩=some (.int .i64 (st.len:Int)):=
 ⟨(Met.blk h.sch.met).cell 0,(Met.blk h.sch.met).cell 1,(Met.blk h.sch.met).cell 11,(Met.blk h.sch.met).cell 12,(Met.blk h.sch.met).cell 13,(Met.blk h.sch.met).cell 14,(Met.blk h.sch.met).cell 15⟩
theorem CoreF.frozen (h:CoreF W0 E H C w0 G0 w F st)(i:Nat):w.frozen? ⟨C.mb,i,none⟩=false:=(Met.blk h.sch.met).frozen i
theorem CoreF.rowAt (h:CoreF W0 E H C w0 G0 w F st):∃vb cap,C.v= .slice (some ⟨vb,0,none⟩) st.a.Ns.length cap∧∀id,id<st.a.Ns.length→w.cell? ⟨vb,id,none⟩=some (.pointer (some ⟨C.A.nb id,0,none⟩)):=by
 have hr:=h.row;obtain⟨A,c,hv⟩:=own_form hr;rw[hv]at hr;obtain⟨rb,rfl,_,hra,_⟩:=RowAt.of_own hr (by have:=h.pos;omega);exact⟨rb,c,hv,fun id hid=>hra.at_ id _ (by simp[hid])⟩
theorem CoreF.node (h:CoreF W0 E H C w0 G0 w F st){id:Nat}{N:Nd}(hN:st.a.Ns[id]?=some N):∃Fi,NdAt w (C.A.nb id) Fi N∧NOk H N∧C.mb∉Fi∧(∀q∈Fi,W0.heap.size≤q)∧(∀q∈Fi,q∈F)∧
  ∀(w':World) (F' S:List Nat) (N':Nd) (x':Mtr),NdAt w' (C.A.nb id) F' N'→NOk H N'→(∀q∈F',q∈Fi∨w.heap.size≤q)→MetP w' (cmp C st) x'→Mod S w w'→(∀q∈S,q=C.mb∨q∈Fi)→∃F2,CoreF W0 E H C w0 G0 w' F2 {st with a:={st.a with Ns:=st.a.Ns.set id N'},x:=x'}:=by
 obtain⟨Fs,hF,hp⟩:=h.sch.pool;obtain⟨hA,hO⟩:=hp.nds id N hN;have hid:=get_lt hN;have hin:∀q∈Fs id,q∈F:=fun q hq=>hF▸mem_footP.2 (.inl ⟨id,hid,hq⟩);refine⟨Fs id,hA,hO,fun hq=>hp.mb (mem_footP.2 (.inl ⟨id,hid,hq⟩)),fun q hq=>hp.low q (mem_footP.2 (.inl ⟨id,hid,hq⟩)),hin,fun w' F' S N' x' hA' hO' hF' hM hm hS=> ?_⟩;have hP:=hp.node hN hA' hO' hF' hm hS h.sch.env.size h.sch.met.lt;have hS':∀q∈S,q=C.mb∨q∈C.s.blocks∨q∈F:=fun q hq=>(hS q hq).imp (fun hh=>hh) (fun hh=> .inr (hin q hh));have hlen:(st.a.Ns.set id N').length=st.a.Ns.length:=List.length_set;refine⟨_,h.upd C.A C.v {st with a:={st.a with Ns:=st.a.Ns.set id N'},x:=x'} hm (fun q hq=> ?_) (h.sch.sch.mod hm (fun q hq hqS=> ?_)) ⟨_,rfl,hP⟩ hM ?_ ?_ (fun q hq=> ?_) (fun g hg=>⟨.inl hg,fun hh=>by have:=(h.row.lt g hg).2;omega⟩)⟩
 ·rcases hS' q hq with h1|h1|h1
  ·exact mem_foot.2 (.inl h1)
  ·exact mem_foot.2 (.inr (.inl h1))
  ·exact mem_foot.2 (.inr (.inr (.inl h1)))
 ·have ha:=h.sch.apart q hq;rcases hS q hqS with h1|h1
  ·exact ha.2.1 h1
  ·exact ha.1 (hin q h1)
 ·show w'.ownsRow W0.heap.size 113 1 C.v (st.a.Ns.set id N').length (nodeRow C.A (st.a.Ns.set id N').length);rw[hlen];exact core_row h hm hS'
 ·show 1≤(st.a.Ns.set id N').length;rw[hlen];exact h.pos
 ·rcases mem_footP.1 hq with⟨i,hi,hq2⟩|hq2
  ·have hi':i<st.a.Ns.length:=by simpa using hi
   by_cases e1:i=id
   ·simp only[if_pos e1]at hq2;rcases hF' q hq2 with h6|h6
    ·exact .inl (hin q h6)
    ·exact .inr h6
   ·simp only[if_neg e1]at hq2;exact .inl (hF▸mem_footP.2 (.inl ⟨i,hi',hq2⟩))
  ·exact .inl (hF▸mem_footP.2 (.inr hq2))
theorem CoreF.again (h:CoreF W0 E H C w0 G0 w F st):CoreF W0 E H C w (C.foot F) w F st:=⟨h.sch,h.row,h.rap,h.pos,h.kk,h.mm,h.sch.env.size,fun _ hq=> .inl hq,Mod.refl _ _⟩
theorem CoreF.chain {C':CPl}{st':CSt}(h:CoreF W0 E H C w0 G0 w F st)(k:CoreF W0 E H C' w (C.foot F) w' F' st'):CoreF W0 E H C' w0 G0 w' F' st':=
 ⟨k.sch,k.row,k.rap,k.pos,k.kk,k.mm,h.le0,fun q hq=>by
  have hz:=h.mod.size;rcases k.sub q hq with h1|h1
  ·exact h.sub q h1
  ·right;omega,h.mod.trans k.mod (fun _ hh _=>hh) (fun q hq hl=>by
   rcases h.sub q hq with h1|h1
   ·exact h1
   ·omega)⟩
theorem CoreF.served (h:CoreF W0 E H C w0 G0 w F st){b':Int}{ids':List Nat}{a':Pool}(hs:SchSt W0 E (cmp C st) (PoolAt W0 C.mb H C.A) C.s w F w' b' ids' a' F' x')(hlen:a'.Ns.length=st.a.Ns.length)(hcop:a'.cop.isSome=st.a.cop.isSome):CoreF W0 E H C w0 G0 w' F' {st with a:=a',ids:=ids',b:=b',x:=x'}:=by
 have hm:=hs.mod;have hm':Mod (C.mb::(C.s.blocks++F)) w w':=hm;refine h.upd C.A C.v {st with a:=a',ids:=ids',b:=b',x:=x'} hm' (fun q hq=> ?_) hs.sch hs.pool ?_ ?_ (by show 1≤a'.Ns.length;rw[hlen];exact h.pos) hs.sub (fun g hg=>⟨.inl hg,fun hh=>by have:=(h.row.lt g hg).2;omega⟩)
 ·simp only[List.mem_cons,List.mem_append]at hq;rcases hq with h1|h1|h1
  ·exact mem_foot.2 (.inl h1)
  ·exact mem_foot.2 (.inr (.inl h1))
  ·exact mem_foot.2 (.inr (.inr (.inl h1)))
 ·have:=hs.met
  have hc:cmp C {st with a:=a',ids:=ids',b:=b',x:=x'}=cmp C st:=by unfold cmp copVal;simp only;rw[hcop]
  show MetP w' (cmp C {st with a:=a',ids:=ids',b:=b',x:=x'}) x';rw[hc];exact this
 ·show w'.ownsRow W0.heap.size 113 1 C.v a'.Ns.length (nodeRow C.A a'.Ns.length);rw[hlen];exact core_row h hm' (fun q hq=>by simpa[List.mem_cons,List.mem_append]using hq)
end
end
section
variable {W0 w w0 : World} {E : Nat → Addr} {H : Nat → Nat} {C : CPl} {F G0 : List Nat} {st : CSt}
def coreP (b:Nat):Value:= .pointer (some ⟨b,0,none⟩)
theorem core_Len (h:CoreF W0 E H C w0 G0 w F st):Calls Tryz.prog 45 #[coreP C.mb] w fun e w'=>e= .returned (.int .i64 (st.len:Int))∧w=w':=by
 have HC:=qd h;obtain⟨c0,c1,c11,c12,c13,c14,c15⟩:=HC.out.cells;clear h;unfold coreP;go_in;go_wp2;go_ret;exact⟨rfl,rfl⟩
theorem core_of (h:CoreF W0 E H C w0 G0 w F st)(hash id:Nat)(h64:hash<18446744073709551616)(hid:st.a.l.getD (topOf hash st.a.d) 0=id)(hn:id<st.a.Ns.length):Calls Tryz.prog 59 #[coreP C.mb,.int .u64 (hash:Int)] w fun e w'=>e= .returned (.tuple #[.int .i64 (id:Int),nodeP (C.A.nb id)])∧Below w.heap.size w w':=by
 have HC:=qd h;obtain⟨c0,c1,c11,c12,c13,c14,c15⟩:=HC.out.cells;obtain⟨Fs,hF,hp⟩:=h.sch.pool;have HD:=qd (dir_At C.A.db C.A.eb st.a.d st.a.l hash h64 w hp.dir);rw[hid]at HD;clear h hp hF;unfold dirP at HD;unfold coreP nodeP;go_in;go_wp2_with fail;refine HD.out.mono ?_;rintro x w1 ⟨rfl,hd⟩;have hb:Below w.heap.size w w1:=hd▸(Below.refl _ _).drew;have HB:=qd hb;replace HC:=qd (HC.out.below hb);clear c0 c1 c11 c12 c13 c14 c15 hd hb HD;obtain⟨c0,c1,c11,c12,c13,c14,c15⟩:=HC.out.cells;obtain⟨vb,cap,hv,hr⟩:=HC.out.rowAt;rw[hv]at c11;have cr:=hr id hn
 have hn':(id:Int)<(st.a.Ns.length:Int):=by omega
 have hi0:(0:Int)≤(id:Int):=by omega
 generalize st.a.Ns.length=n at*;clear hv hr hid;go_wp2;go_region;go_wp2;refine bodyPost_ret (v:= .tuple #[.int .i64 (id:Int),.pointer (some ⟨C.A.nb id,0,none⟩)]) (by simp[results,Tryz.results59,go_sem]) rfl ⟨rfl,below2 HB.out (Below.refl _ _).drew⟩
end
section
variable {S l' : List Nat} {cop' : Option (Nat × List Nat)}
section
variable {W0 : World} {E : Nat → Addr} {H : Nat → Nat} {C : CPl} {w0 : World} {G0 : List Nat} {w w' : World} {F : List Nat} {st : CSt}
theorem core_Unit (h:CoreF W0 E H C w0 G0 w F st)(n:Nat)(hn:1≤n):Calls Tryz.prog 99 #[.pointer (some ⟨C.mb,3,none⟩),.int .i64 (n:Int)] w fun e w'=>e= .returned undef∧CoreF W0 E H C w0 G0 w' F {st with x:=st.x.add (cU (n:Int)) 1}:=
 (meter_Unit C.mb _ _ _ 3 st.x.all st.x.last C.m (n:Int) (by omega) w h.sch.met).mono fun e w' ⟨h1,h2,h3⟩=>⟨h1,h.met h2 h3⟩
theorem CoreF.sched (h:CoreF W0 E H C w0 G0 w F st){ids':List Nat}(hs:SchAt w' C.sb C.qb C.rb C.jb (C.K:Int) st.b C.A.val ids')(hm:Mod S w w')(hS:∀q∈S,q∈C.s.blocks):CoreF W0 E H C w0 G0 w' F {st with ids:=ids'}:=by
 have hb:∀q∈S,q∉F∧q≠C.mb∧W0.heap.size≤q:=fun q hq=>h.sch.apart q (hS q hq);exact h.upd C.A C.v {st with ids:=ids'} hm (fun q hq=>mem_foot.2 (.inr (.inl (hS q hq)))) hs (h.hp.stab h.sch.pool hm (fun q hq hqS=>(hb q hqS).1 hq)) (h.sch.met.mod hm (fun hq=>(hb _ hq).2.1 rfl)) (core_row (st:=st) h hm (fun q hq=> .inr (.inl (hS q hq)))) h.pos (fun _ hq=> .inl hq) (rap_keep (st:=st) h)
theorem PoolIn.dirs {mb:Nat}{A:Adr}{Fs:Nat→List Nat}{a:Pool}(h:PoolIn W0 mb H A w Fs a)(hD:DirAt w' A.db A.eb a.d l')(hC:∀(next:Nat) (lf:List Nat),cop'=some (next,lf)→CopAt w' A.cb A.db A.eb A.fb A.fe a.d next l' lf)(hi:cop'.isSome=a.cop.isSome)(hm:Mod S w w')(hS:∀q∈S,q∈A.dirF a.cop):
  PoolIn W0 mb H A w' Fs {a with l:=l',cop:=cop'}∧footP A Fs {a with l:=l',cop:=cop'}=footP A Fs a:=by
 have hd:A.dirF cop'=A.dirF a.cop:=by unfold Adr.dirF;rw[hi]
 have hf:footP A Fs {a with l:=l',cop:=cop'}=footP A Fs a:=by unfold footP;rw[←hd]
 refine⟨⟨fun i N hN=>⟨(h.nds i N hN).1.mod hm (fun q hq hqS=>h.sepD i (get_lt hN) q hq (hS q hqS)),(h.nds i N hN).2⟩,hD,hC,h.sep,fun i hi q hq=>by show q∉A.dirF cop';rw[hd];exact h.sepD i hi q hq,fun q hq=>h.low q (hf▸hq),fun hq=>h.mb (hf▸hq),h.le32⟩,hf⟩
theorem CoreF.dirs (h:CoreF W0 E H C w0 G0 w F st)(hD:DirAt w' C.A.db C.A.eb st.a.d l')(hC:∀(next:Nat) (lf:List Nat),cop'=some (next,lf)→CopAt w' C.A.cb C.A.db C.A.eb C.A.fb C.A.fe st.a.d next l' lf)(hi:cop'.isSome=st.a.cop.isSome)(hm:Mod S w w')(hS:∀q∈S,q∈C.A.dirF st.a.cop):
  CoreF W0 E H C w0 G0 w' F {st with a:={st.a with l:=l',cop:=cop'}}:=by
 obtain⟨Fs,hF,hp⟩:=h.sch.pool;obtain⟨hp',hf⟩:=hp.dirs hD hC hi hm hS;have hSF:∀q∈S,q∈F:=fun q hq=>hF▸mem_footP.2 (.inr (hS q hq))
 have hcm:cmp C {st with a:={st.a with l:=l',cop:=cop'}}=cmp C st:=by unfold cmp copVal;simp only;rw[hi]
 refine h.upd C.A C.v {st with a:={st.a with l:=l',cop:=cop'}} hm (fun q hq=>mem_foot.2 (.inr (.inr (.inl (hSF q hq))))) (h.sch.sch.mod hm (fun q hq hqS=>(h.sch.apart q hq).1 (hSF q hqS))) ⟨Fs,hF.trans hf.symm,hp'⟩ ?_ (core_row (st:=st) h hm (fun q hq=> .inr (.inr (hSF q hq)))) h.pos (fun _ hq=> .inl hq) (rap_keep (st:=st) h);show MetP w' (cmp C {st with a:={st.a with l:=l',cop:=cop'}}) st.x;rw[hcm];exact h.sch.met.mod hm (fun hq=>h.hp.mb h.sch.pool (hSF _ hq))
end
theorem core_add {W0:World}{E:Nat→Addr}{H:Nat→Nat}{C:CPl}{w0:World}{G0:List Nat}{w:World}{F:List Nat}{st:CSt}(h:CoreF W0 E H C w0 G0 w F st)(id:Nat)(t:TypeId)(p:Addr)(hv:C.A.val id= .iface t (.pointer (some p)))(hid:id∉st.ids)(h1000:id≤1000)(hroom:st.ids.length<40):Calls Tryz.prog 95 #[coreP C.mb,.int .i64 (id:Int),.iface t (.pointer (some p))] w fun e w'=>e= .returned undef∧CoreF W0 E H C w0 G0 w' F {st with ids:=st.ids++[id],x:=st.x.add (cU 1) 1}:=by
 have HC:=qd h;obtain⟨c0,c1,c11,c12,c13,c14,c15⟩:=HC.out.cells;have HU:=qd (core_Unit h 1 (Nat.le_refl _));have HV:=qd hv;have HId:=qd hid;have HRo:=qd hroom;clear h hv hid hroom;unfold coreP;go_in;go_wp2_with fail;refine HU.out.mono ?_;rintro x w1 ⟨rfl,h1⟩;clear HC HU c0 c1 c11 c12 c13 c14 c15;have HC:=qd h1;clear h1;obtain⟨c0,c1,c11,c12,c13,c14,c15⟩:=HC.out.cells;have HA:=qd (sched_Add C.sb C.qb C.rb C.jb C.K st.b C.A.val st.ids id HId.out h1000 HRo.out t p HV.out w1 HC.out.sch.sch);unfold schP at HA;go_wp2_with fail;refine HA.out.mono ?_;rintro x w2 ⟨rfl,h2,h3⟩;have HC2:=qd (HC.out.sched h2 h3 (by intro q hq;simp[CPl.s,SP.blocks]at hq⊢;omega));clear c0 c1 c11 c12 c13 c14 c15 HC HA h2 h3;go_wp2_with fail;refine(trap_Raise w2).mono ?_;rintro x w3 ⟨rfl,rfl⟩;go_wp2;go_end0;exact⟨rfl,HC2.out⟩
theorem core_set_none {W0:World}{E:Nat→Addr}{H:Nat→Nat}{C:CPl}{w0:World}{G0:List Nat}{w:World}{F:List Nat}{st:CSt}(h:CoreF W0 E H C w0 G0 w F st)(p pd id:Nat)(h1:pd≤st.a.d)(hp:p<2^pd)(hc:st.a.cop=none):Calls Tryz.prog 152 #[coreP C.mb,.int .i64 (p:Int),.int .i64 (pd:Int),.int .i64 (id:Int)] w fun e w'=>∃n,1≤n∧e= .returned (.int .i64 ((n:Nat):Int))∧CoreF W0 E H C w0 G0 w' F {st with a:={st.a with l:=setN st.a.l (fromOf p pd st.a.d) id (2^(st.a.d-pd)),cop:=st.a.cop.map fun c=>(c.1,dblL c.2 (setN st.a.l (fromOf p pd st.a.d) id (2^(st.a.d-pd))) (fromOf p pd st.a.d) (min (fromOf p pd st.a.d+2^(st.a.d-pd)) c.1-fromOf p pd st.a.d))}}:=by
 obtain⟨Fs,hF,hpo⟩:=h.sch.pool;have HC:=qd h;obtain⟨c0,c1,c11,c12,c13,c14,c15⟩:=HC.out.cells;unfold copVal at c13;rw[hc]at c13;simp only[Option.isSome_none,Bool.false_eq_true,if_false]at c13;have HS:=qd (dir_Set C.A.db C.A.eb st.a.d st.a.l p pd h1 hp id w hpo.dir);have hpos:=pos2 (st.a.d-pd);obtain⟨n,hn⟩:∃n,n=2^(st.a.d-pd):=⟨_,rfl⟩
 have hn1:1≤n:=by omega
 have HHc:=qd hc;have HN:=qd hn;have HS2:=qd (show Calls Tryz.prog 194 #[dirP C.A.db,.int .i64 (p:Int),.int .i64 (pd:Int),.int .i64 (id:Int)] w fun e w'=>e= .returned (.tuple #[.int .i64 (n:Int),.nilIface])∧DirAt w' C.A.db C.A.eb st.a.d (setN st.a.l (fromOf p pd st.a.d) id (2^(st.a.d-pd)))∧Mod [C.A.eb] w w' from by rw[hn];exact HS.out);clear HS;have HS:=HS2;clear HS2 h hc hpo hF h1 hp hn hpos;unfold dirP at HS;unfold coreP;go_in;go_wp2_with fail;refine HS.out.mono ?_;rintro x w1 ⟨rfl,h3,h4⟩;have HC2:=qd (HC.out.dirs (cop':=none) h3 (fun next lf he=>by cases he) (by rw[HHc.out]) h4 (by intro q hq;unfold Adr.dirF;simp at hq⊢;omega));clear c0 c1 c11 c12 c13 c14 c15 h3 h4 HC HS;go_wp2_with fail;refine(must_int (n:Int) w1).mono ?_;rintro x w2 ⟨rfl,rfl⟩;go_wp2;go_ret;exact⟨n,hn1,rfl,by have hh:=HC2.out;rw[HHc.out];exact hh⟩
theorem core_set_some {W0:World}{E:Nat→Addr}{H:Nat→Nat}{C:CPl}{w0:World}{G0:List Nat}{w:World}{F:List Nat}{st:CSt}(h:CoreF W0 E H C w0 G0 w F st)(p pd id:Nat)(h1:pd≤st.a.d)(hp:p<2^pd)(c:Nat×List Nat)(hc:st.a.cop=some c):Calls Tryz.prog 152 #[coreP C.mb,.int .i64 (p:Int),.int .i64 (pd:Int),.int .i64 (id:Int)] w fun e w'=>∃n,1≤n∧e= .returned (.int .i64 ((n:Nat):Int))∧CoreF W0 E H C w0 G0 w' F {st with a:={st.a with l:=setN st.a.l (fromOf p pd st.a.d) id (2^(st.a.d-pd)),cop:=st.a.cop.map fun c=>(c.1,dblL c.2 (setN st.a.l (fromOf p pd st.a.d) id (2^(st.a.d-pd))) (fromOf p pd st.a.d) (min (fromOf p pd st.a.d+2^(st.a.d-pd)) c.1-fromOf p pd st.a.d))}}:=by
 obtain⟨Fs,hF,hpo⟩:=h.sch.pool;have HC:=qd h;obtain⟨c0,c1,c11,c12,c13,c14,c15⟩:=HC.out.cells;unfold copVal at c13;rw[hc]at c13;simp only[Option.isSome_some,if_true]at c13;have HS:=qd (copyist_Set C.A.cb C.A.db C.A.eb C.A.fb C.A.fe st.a.d c.1 st.a.l c.2 p pd id h1 hp w (hpo.cop c.1 c.2 hc));have hpos:=pos2 (st.a.d-pd);obtain⟨n,hn⟩:∃n,n=2^(st.a.d-pd)+2*(min (fromOf p pd st.a.d+2^(st.a.d-pd)) c.1-fromOf p pd st.a.d):=⟨_,rfl⟩
 have hn1:1≤n:=by omega
 have HHc:=qd hc;rw[←hn]at HS;clear h hc hpo hF h1 hp hn hpos;unfold copP at HS;unfold coreP;go_in;go_wp2_with fail;refine HS.out.mono ?_;rintro x w1 ⟨rfl,h3,h4⟩;have HC2:=qd (HC.out.dirs (cop':=some (c.1,_)) h3.old (fun next lf he=>by cases he;exact h3) (by rw[HHc.out];rfl) h4 (by intro q hq;unfold Adr.dirF;rw[HHc.out];simp at hq⊢;omega));clear c0 c1 c11 c12 c13 c14 c15 h3 h4 HC HS;go_wp2_with fail;refine(must_int (n:Int) w1).mono ?_;rintro x w2 ⟨rfl,rfl⟩;go_wp2;go_ret;exact⟨n,hn1,rfl,by have hh:=HC2.out;rw[HHc.out];exact hh⟩
end
end Go.Proofs.YtchlkhkeonnmdacGreatDoor
