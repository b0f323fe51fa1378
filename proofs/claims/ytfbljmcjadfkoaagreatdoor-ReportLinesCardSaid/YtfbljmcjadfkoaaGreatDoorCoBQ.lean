/- A node in the heap, in every phase of its job: where it lies, which table a key's write goes to. -/
import Derived.Test.YtfbljmcjadfkoaaGreatDoorCoCA
import Derived.Test.YtfbljmcjadfkoaaGreatDoorSqM
import Derived.Test.YtfbljmcjadfkoaaGreatDoorSqT
import Derived.Test.YtfbljmcjadfkoaaGreatDoorSq
import Derived.Maps.OwnSet
import Derived.Maps.OwnOps
import Derived.Maps.RangeWalk
namespace Go.Proofs.YtfbljmcjadfkoaaGreatDoor
set_option maxRecDepth 100000
set_option maxHeartbeats 4000000
open Go.RowKit AmC Go.Maps
section
variable {S : List Nat} {H : Nat → Nat}
def Nd.dep (N:Nd):Nat:=if N.many=1 then 0 else N.dpt
def ndCells (N:Nd)(tb:Nat)(dv:Value):Array Value:= #[.int .i64 (N.pfx:Int),.int .i64 (N.dpt:Int),.pointer (some ⟨tb,0,none⟩),.int .i64 (N.kind:Int),dv]
def NdAt (w:World)(nb:Nat)(F:List Nat)(N:Nd):Prop:=match N.ph with
 | .idle=>∃tb gb,Blk w nb 187 (ndCells N tb (.pointer none))∧TabAt w tb gb N.T∧F=[nb,tb,gb]∧nb≠tb∧nb≠gb
 | .bld k=>∃db rb cap ob og bl,Blk w nb 187 (ndCells N ob (.pointer (some ⟨db,0,none⟩)))∧DuB w db rb cap ob og bl N.T N.each N.dep k∧bl.length=N.many∧F=nb::footB db rb ob og bl∧nb∉footB db rb ob og bl
 | .mov Ts next=>∃db rb cap ob og fb fcap eb vb vcap bbs bs,Blk w nb 187 (ndCells N ob (.pointer (some ⟨db,0,none⟩)))∧DuM w db rb cap ob og fb fcap eb vb vcap bbs bs N.T Ts N.each N.dep next∧bs.length=N.many∧F=nb::footM db rb fb eb vb ob og bbs bs∧nb∉footM db rb fb eb vb ob og bbs bs
section
variable {w w' : World} {db rb cap ob og fb fcap eb vb vcap : Nat} {bl : List (Nat × Nat × Nat)} {bbs : List Nat} {bs : List (Nat × Nat)} {T X : TabM} {Ts : List TabM} {n depth k next : Nat}
theorem DuB.lts (h:DuB w db rb cap ob og bl T n depth k):∀q∈footB db rb ob og bl,q<w.heap.size:=by
 intro q hq;unfold footB at hq;simp only[List.mem_cons,List.mem_flatMap]at hq;rcases hq with rfl|rfl|rfl|rfl|⟨b,hb,hq⟩
 ·exact h.blk.lt
 ·exact h.row.lt
 ·exact h.tab.ltT
 ·exact h.tab.ltG
 ·obtain⟨i,hi⟩:=List.getElem?_of_mem hb;have:=h.blds i b hi;simp at hq;rcases hq with rfl|rfl|rfl
  ·exact this.lt
  ·exact this.ltT
  ·exact this.ltG
theorem DuM.lts (h:DuM w db rb cap ob og fb fcap eb vb vcap bbs bs T Ts n depth next):∀q∈footM db rb fb eb vb ob og bbs bs,q<w.heap.size:=by
 intro q hq;unfold footM at hq;simp only[List.mem_cons,List.mem_append,mem_flatB]at hq;rcases hq with rfl|rfl|rfl|rfl|rfl|rfl|rfl|hq|⟨b,hb,hq⟩
 ·exact h.blk.lt
 ·exact h.row.lt
 ·exact h.fresh.lt
 ·exact h.ev.lt
 ·exact h.ev.ltV
 ·exact h.tab.ltT
 ·exact h.tab.ltG
 ·exact(h.blds q hq).lt
 ·obtain⟨i,hi⟩:=List.getElem?_of_mem hb;obtain⟨T',hT'⟩:∃T',Ts[i]?=some T':=⟨_,List.getElem?_eq_getElem (by rw[←h.tabs.len];exact(List.getElem?_eq_some_iff.1 hi).1)⟩;have:=h.tabs.at_ i b T' hi hT';rcases hq with rfl|rfl
  ·exact this.ltT
  ·exact this.ltG
theorem DuB.setT (h:DuB w db rb cap ob og bl T n depth k)(hT:TabAt w' ob og X)(hm:Mod S w w')(hS:∀q∈footB db rb ob og bl,q∈S→q=ob∨q=og):DuB w' db rb cap ob og bl X n depth k:=by
 have hnd:=h.nd;unfold footB at hnd;simp only[List.nodup_cons,List.mem_cons,List.mem_flatMap,not_or]at hnd;obtain⟨⟨h1,h2,h3,_⟩,⟨h4,h5,h6⟩,⟨h7,h8⟩,h9,_⟩:=hnd;refine⟨h.blk.mod hm (fun hh=> ?_),h.row.mod hm (fun hh=> ?_),fun i b hb=> ?_,hT,h.pow,h.many,h.lt,h.deep,h.nd⟩
 ·rcases hS _ (by simp[footB]) hh with e|e
  ·exact h2 e
  ·exact h3 e
 ·rcases hS _ (by simp[footB]) hh with e|e
  ·exact h4 e
  ·exact h5 e
 ·have hbm:=List.mem_of_getElem? hb;obtain⟨m1,m2,m3⟩:=mem_footB (db:=db) (rb:=rb) (ob:=ob) (og:=og) hbm;have hne:∀q∈[b.1,b.2.1,b.2.2],q≠ob∧q≠og:=fun q hq=>⟨fun e=>h8 ⟨b,hbm,by have h:=e▸hq;simpa using h⟩,fun e=>h9 ⟨b,hbm,by have h:=e▸hq;simpa using h⟩⟩;refine(h.blds i b hb).mod hm (fun hh=> ?_) (fun hh=> ?_) (fun hh=> ?_)
  ·rcases hS _ m1 hh with e|e
   ·exact(hne _ (by simp)).1 e
   ·exact(hne _ (by simp)).2 e
  ·rcases hS _ m2 hh with e|e
   ·exact(hne _ (by simp)).1 e
   ·exact(hne _ (by simp)).2 e
  ·rcases hS _ m3 hh with e|e
   ·exact(hne _ (by simp)).1 e
   ·exact(hne _ (by simp)).2 e
theorem mem_footM_b {q:Nat}(h:q∈bbs):q∈footM db rb fb eb vb ob og bbs bs:=by unfold footM;simp[h]
theorem DuM.setT (h:DuM w db rb cap ob og fb fcap eb vb vcap bbs bs T Ts n depth next)(hT:TabAt w' ob og X)(hm:Mod S w w')(hS:∀q∈footM db rb fb eb vb ob og bbs bs,q∈S→q=ob∨q=og):DuM w' db rb cap ob og fb fcap eb vb vcap bbs bs X Ts n depth next:=by
 have hnd:=h.nd;unfold footM at hnd;simp only[List.nodup_cons,List.mem_cons,List.mem_append,not_or]at hnd;obtain⟨⟨a1,a2,a3,a4,a5,a6,a7,a8⟩,⟨b2,b3,b4,b5,b6,b7,b8⟩,⟨c3,c4,c5,c6,c7,c8⟩,⟨d4,d5,d6,d7,d8⟩,⟨e5,e6,e7,e8⟩,⟨f6,f7,f8⟩,⟨g7,g8⟩,_⟩:=hnd
 have key:∀q,q∈footM db rb fb eb vb ob og bbs bs→q≠ob→q≠og→q∉S:=fun q hq n1 n2 hh=>by
  rcases hS q hq hh with e|e
  ·exact n1 e
  ·exact n2 e
 refine⟨h.blk.mod hm (key _ (by simp[footM]) a5 a6),h.row.mod hm (key _ (by simp[footM]) b5 b6),fun b hb=>(h.blds b hb).mod hm (key _ (mem_footM_b hb) (fun e=>f7 (e▸hb)) (fun e=>g7 (e▸hb))),h.fresh.mod hm (key _ (by simp[footM]) c5 c6),
  h.ev.mod hm (key _ (by simp[footM]) d5 d6) (key _ (by simp[footM]) e5 e6),hT,h.tabs.mod hm (fun b hb=> ?_),h.pow,h.many,h.eq,h.deep,h.nd⟩
 obtain⟨m1,m2⟩:=mem_footM_t (db:=db) (rb:=rb) (fb:=fb) (eb:=eb) (vb:=vb) (ob:=ob) (og:=og) (bbs:=bbs) hb;exact⟨key _ m1 (fun e=>f8 (e▸mem_flatB.2 ⟨b,hb,.inl rfl⟩)) (fun e=>g8 (e▸mem_flatB.2 ⟨b,hb,.inl rfl⟩)),key _ m2 (fun e=>f8 (e▸mem_flatB.2 ⟨b,hb,.inr rfl⟩)) (fun e=>g8 (e▸mem_flatB.2 ⟨b,hb,.inr rfl⟩))⟩
theorem DuM.setF (h:DuM w db rb cap ob og fb fcap eb vb vcap bbs bs T Ts n depth next){j:Nat}{b:Nat×Nat}(hb:bs[j]?=some b)(hT:TabAt w' b.1 b.2 X)(hm:Mod S w w')(hS:∀q∈footM db rb fb eb vb ob og bbs bs,q∈S→q=b.1∨q=b.2):DuM w' db rb cap ob og fb fcap eb vb vcap bbs bs T (Ts.set j X) n depth next:=by
 have hnd:=h.nd;unfold footM at hnd;simp only[List.nodup_cons,List.mem_cons,List.mem_append,not_or,List.nodup_append]at hnd;obtain⟨⟨a1,a2,a3,a4,a5,a6,a7,a8⟩,⟨b2,b3,b4,b5,b6,b7,b8⟩,⟨c3,c4,c5,c6,c7,c8⟩,⟨d4,d5,d6,d7,d8⟩,⟨e5,e6,e7,e8⟩,⟨f6,f7,f8⟩,⟨g7,g8⟩,_,_,i8⟩:=hnd;have hbm:=List.mem_of_getElem? hb;have k1:b.1∈flatB bs:=mem_flatB.2 ⟨b,hbm,.inl rfl⟩;have k2:b.2∈flatB bs:=mem_flatB.2 ⟨b,hbm,.inr rfl⟩
 have key:∀q,q∈footM db rb fb eb vb ob og bbs bs→(∀z∈flatB bs,q≠z)→q∉S:=fun q hq n1 hh=>by
  rcases hS q hq hh with e|e
  ·exact n1 _ k1 e
  ·exact n1 _ k2 e
 have fl:∀q:Nat,q∉flatB bs→∀z∈flatB bs,q≠z:=fun q hq z hz e=>hq (e▸hz)
 refine⟨h.blk.mod hm (key _ (by simp[footM]) (fl _ a8)),h.row.mod hm (key _ (by simp[footM]) (fl _ b8)),fun c hc=>(h.blds c hc).mod hm (key _ (mem_footM_b hc) (fun z hz=>i8 c hc z hz)),h.fresh.mod hm (key _ (by simp[footM]) (fl _ c8)),
  h.ev.mod hm (key _ (by simp[footM]) (fl _ d8)) (key _ (by simp[footM]) (fl _ e8)),h.tab.mod hm (key _ (by simp[footM]) (fl _ f8)) (key _ (by simp[footM]) (fl _ g8)),
  ?_,h.pow,h.many,h.eq,h.deep,h.nd⟩
 refine⟨by rw[List.length_set];exact h.tabs.len,fun i c Y hc hY=> ?_,h.tabs.ne⟩;rw[List.getElem?_set]at hY;by_cases hij:j=i
 ·subst hij;rw[hb]at hc;cases hc;rw[if_pos rfl,if_pos (by rw[←h.tabs.len];exact(List.getElem?_eq_some_iff.1 hb).1)]at hY;cases hY;exact hT
 ·rw[if_neg hij]at hY;obtain⟨m1,m2⟩:=mem_footM_t (db:=db) (rb:=rb) (fb:=fb) (eb:=eb) (vb:=vb) (ob:=ob) (og:=og) (bbs:=bbs) (List.mem_of_getElem? hc);have hne:=h.tabs.ne j i b c hb hc hij;refine(h.tabs.at_ i c Y hc hY).mod hm (fun hh=> ?_) (fun hh=> ?_)
  ·rcases hS _ m1 hh with e|e
   ·exact hne.1 e.symm
   ·exact hne.2.2.1 e.symm
  ·rcases hS _ m2 hh with e|e
   ·exact hne.2.1 e.symm
   ·exact hne.2.2.2 e.symm
end
section
variable {w w' : World} {nb : Nat} {F : List Nat} {N : Nd}
theorem NdAt.lts (h:NdAt w nb F N):∀q∈F,q<w.heap.size:=by
 unfold NdAt at h;split at h
 ·obtain⟨tb,gb,h1,h2,rfl,_⟩:=h;intro q hq;simp at hq;rcases hq with rfl|rfl|rfl
  ·exact h1.lt
  ·exact h2.ltT
  ·exact h2.ltG
 ·obtain⟨db,rb,cap,ob,og,bl,h1,h2,_,rfl,_⟩:=h;intro q hq;rcases List.mem_cons.1 hq with rfl|hq
  ·exact h1.lt
  ·exact h2.lts q hq
 ·obtain⟨db,rb,cap,ob,og,fb,fcap,eb,vb,vcap,bbs,bs,h1,h2,_,rfl,_⟩:=h;intro q hq;rcases List.mem_cons.1 hq with rfl|hq
  ·exact h1.lt
  ·exact h2.lts q hq
theorem NdAt.mod (h:NdAt w nb F N)(hm:Mod S w w')(hS:∀q∈F,q∉S):NdAt w' nb F N:=by
 unfold NdAt at h⊢;split at h
 ·obtain⟨tb,gb,h1,h2,rfl,h3⟩:=h;exact⟨tb,gb,h1.mod hm (hS _ (by simp)),h2.mod hm (hS _ (by simp)) (hS _ (by simp)),rfl,h3⟩
 ·obtain⟨db,rb,cap,ob,og,bl,h1,h2,h3,rfl,h4⟩:=h;exact⟨db,rb,cap,ob,og,bl,h1.mod hm (hS _ (by simp)),h2.mod hm (fun q hq=>hS q (by simp[hq])),h3,rfl,h4⟩
 ·obtain⟨db,rb,cap,ob,og,fb,fcap,eb,vb,vcap,bbs,bs,h1,h2,h3,rfl,h4⟩:=h;exact⟨db,rb,cap,ob,og,fb,fcap,eb,vb,vcap,bbs,bs,h1.mod hm (hS _ (by simp)),h2.mod hm (fun q hq=>hS q (by simp[hq])),h3,rfl,h4⟩
theorem NdAt.below (h:NdAt w nb F N)(hb:Below w.heap.size w w'):NdAt w' nb F N:=h.mod (Mod.of_below hb []) (by simp)
end
def nodeCells (N:Nd)(tb:Nat)(dv:Value):Array Value:=ndCells N tb dv
structure Whr (w:World)(H:Nat→Nat)(nb:Nat)(F:List Nat)(N:Nd)(P:MP)(x:Mtr)(c:Cnt)(key tX gX cnt:Nat)(TX:TabM):Prop where
 tab:TabAt w tX gX TX
 inT:tX∈F
 inG:gX∈F
 ne:nb≠tX∧nb≠gX
 tg:TG TX
 cnt_:cnt≤128
 key_:(∃e∈N.ents,e.key=key∧e.hash=H key∧∃i s,(seek TX.gs key (H key)).1=some (i,s)∧slotAt TX.gs i s= .full e)∨
  ((∀e∈N.ents,e.key≠key)∧(∀e∈entsT TX.gs,e.key≠key)∧(seek TX.gs key (H key)).1=none∧(N.sl=0→load TX+1≤7*TX.gs.length))
 swap:∀(w':World) (X:TabM) (del add:List Ent) (S:List Nat),TabAt w' tX gX X→TChg del add TX X→AddOk H N del add→(∀e∈add,e.hash=H key)→(del=[]→(seek TX.gs key (H key)).1=none)→Mod S w w'→(∀q∈F,q∈S→q=tX∨q=gX)→∃N',NdAt w' nb F N'∧Wr H del add N N'
 call:(Blk w nb 187 (ndCells N tX (.pointer none))∧cnt=(seek TX.gs key (H key)).2.2)∨∃tb db,Blk w nb 187 (ndCells N tb (.pointer (some ⟨db,0,none⟩)))∧SeekTo w db P x c key (H key) tX gX TX cnt
end
section
def intCells (l:List Nat):Array Value:=(l.map fun n:Nat=>Value.int .i64 (n:Int)).toArray
theorem intCells_set (l:List Nat)(i n:Nat):(intCells l).setIfInBounds i (.int .i64 (n:Int))=intCells (l.set i n):=by
 unfold intCells;rw[List.setIfInBounds_toArray,List.map_set]
theorem info_int:(Tryz.prog.info? 3).map (fun i=>(i.zero,i.size,i.bytes))=some (some (.int .i64 0),1,8):=by kernel_rfl
theorem make_ints (n:Nat)(hn:n≤65536)(W:World):(Instr.makeSlice 26 (.int .i64 (n:Int)) (.int .i64 (n:Int))).run Tryz.prog W= .ok (.slice (some ⟨W.heap.size,0,none⟩) n n) (W.alloc (.cells (intCells (List.replicate n 0)) 3)):=by
 obtain⟨i,hi,hz0,hz1,hz2⟩:=info_parts info_int;have:=run_makeSlice (P:=Tryz.prog) (w:=W) 26 3 i (.int .i64 0) Tryz.underlying26 hi hz0 .i64 .i64 (n:Int) (n:Int) (by omega) (Int.le_refl _) (by rw[hz1];omega) (by rw[hz2];omega) (by omega);rw[this,hz1,Int.toNat_natCast]
 have e:madeCells (Value.int .i64 0).cells (n*1)=intCells (List.replicate n 0):=by
  rw[made_const (z:=(Value.int .i64 0).cells) (k:=1) (v:= .int .i64 0) rfl (by omega),Nat.mul_one];unfold intCells;rw[List.map_replicate];rfl
 rw[e]
structure DirAt (w:World)(db eb d:Nat)(l:List Nat):Prop where
 blk:Blk w db 189 #[.int .i64 (d:Int),.slice (some ⟨eb,0,none⟩) l.length l.length]
 row:Blk w eb 3 (intCells l)
 len:l.length=2^d
 le:d≤5
 ne:db≠eb
section
variable {w w' : World} {db eb d : Nat} {l : List Nat}
theorem DirAt.mod {S:List Nat}(h:DirAt w db eb d l)(hm:Mod S w w')(h1:db∉S)(h2:eb∉S):DirAt w' db eb d l:=⟨h.blk.mod hm h1,h.row.mod hm h2,h.len,h.le,h.ne⟩
instance {w w':World}{db eb d:Nat}{l:List Nat}:Md (DirAt w db eb d l) w w' (DirAt w' db eb d l) (fun S=>db∉S∧eb∉S):=⟨fun h hm hs=>h.mod hm hs.1 hs.2⟩
theorem DirAt.lt (h:DirAt w db eb d l):db<w.heap.size:=h.blk.lt
theorem DirAt.ltE (h:DirAt w db eb d l):eb<w.heap.size:=h.row.lt
theorem DirAt.cells (h:DirAt w db eb d l):w.cell? ⟨db,0,none⟩=some (.int .i64 (d:Int))∧w.cell? ⟨db,1,none⟩=some (.slice (some ⟨eb,0,none⟩) l.length l.length):=⟨h.blk.cell 0,h.blk.cell 1⟩
theorem DirAt.entry (h:DirAt w db eb d l){i:Nat}(hi:i<l.length):w.cell? ⟨eb,i,none⟩=some (.int .i64 ((l.getD i 0:Nat):Int)):=by
 rw[h.row.cell i];unfold intCells;rw[List.getElem?_toArray,List.getElem?_map,List.getD_eq_getElem?_getD,List.getElem?_eq_getElem hi];rfl
theorem DirAt.set_ (h:DirAt w db eb d l)(i n:Nat):DirAt (w.setCell ⟨eb,i,none⟩ (.int .i64 (n:Int))) db eb d (l.set i n):=by
 refine⟨?_, ?_,by rw[List.length_set];exact h.len,h.le,h.ne⟩
 ·rw[List.length_set];exact h.blk.far (p:=⟨eb,i,none⟩) h.ne _
 ·have:=h.row.set_ i (.int .i64 (n:Int))
  rwa [intCells_set]at this
theorem DirAt.small (h:DirAt w db eb d l):l.length≤32:=by
 rw[h.len];have:=Nat.pow_le_pow_right (n:=2) (by omega) h.le;omega
end
def dirP (b:Nat):Value:= .pointer (some ⟨b,0,none⟩)
theorem dir_New (d:Nat)(hd:d≤5)(w:World):
  Calls Tryz.prog 85 #[.int .i64 (d:Int)] w fun e w'=>e= .returned (.tuple #[dirP (w.heap.size+1),.nilIface])∧DirAt w' (w.heap.size+1) w.heap.size d (List.replicate (2^d) 0)∧Below w.heap.size w w':=by
 have hpw:2^d≤32:=by have:=Nat.pow_le_pow_right (n:=2) (by omega) hd;omega
 have e:((2:Int)^d)=((2^d:Nat):Int):=by simp
 have h1:¬(d:Int)<0:=by omega
 have h2:¬(d:Int)>5:=by omega
 have h3:(2:Int)^d≤65536:=by rw[e];omega
 have h4:(0:Int)≤2^d:=by rw[e];exact Int.natCast_nonneg _
 have h5:(d:Int)≤64:=by omega
 have hmk:=make_ints (2^d) (by omega) w;rw[←e]at hmk
 have HE:=qd (show DirAt ((w.alloc (.cells (intCells (List.replicate (2^d) 0)) 3)).alloc (.cells #[.int .i64 (d:Int),.slice (some ⟨w.heap.size,0,none⟩) (2^d) (2^d)] 189)) (w.heap.size+1) w.heap.size d (List.replicate (2^d) 0)from by
  refine⟨?_,(Blk.new w _ _).alloc _,by simp,hd,by omega⟩;have:=Blk.new (w.alloc (.cells (intCells (List.replicate (2^d) 0)) 3)) 189 #[.int .i64 (d:Int),.slice (some ⟨w.heap.size,0,none⟩) (2^d) (2^d)];rw[World.size_alloc]at this;rw[List.length_replicate]
  exact this)
 clear e hpw hd;unfold dirP;go_in;go_wp2;refine bodyPost_ret (v:= .tuple #[.pointer (some ⟨w.heap.size+1,0,none⟩),.nilIface]) (by simp[results,Tryz.results85,go_sem]) rfl ⟨rfl,HE.out, ?_⟩;exact((Below.refl _ _).alloc (Nat.le_refl _) _).alloc (by simp) _
theorem dir_Len (db eb d:Nat)(l:List Nat)(w:World)(h:DirAt w db eb d l):Calls Tryz.prog 285 #[dirP db] w fun e w'=>e= .returned (.int .i64 (l.length:Int))∧w=w':=by
 obtain⟨c0,c1⟩:=h.cells;clear h;unfold dirP;go_in;go_wp2;go_ret;exact⟨rfl,rfl⟩
theorem dir_Entry (db eb d:Nat)(l:List Nat)(i:Nat)(hi:i<l.length)(w:World)(h:DirAt w db eb d l):Calls Tryz.prog 302 #[dirP db,.int .i64 (i:Int)] w fun e w'=>e= .returned (.tuple #[.int .i64 ((l.getD i 0:Nat):Int),.nilIface])∧w=w':=by
 have hi0:¬(i:Int)<0:=by omega
 have hi1:(0:Int)≤(i:Int):=by omega
 have hi2:(i:Int)<(l.length:Int):=by omega
 have ce:=h.entry hi;obtain⟨v,hv⟩:∃v,v=l.getD i 0:=⟨_,rfl⟩;rw[←hv]at ce⊢;obtain⟨c0,c1⟩:=h.cells;clear h hv;unfold dirP;go_in;go_wp2;refine bodyPost_ret (v:= .tuple #[.int .i64 (v:Int),.nilIface]) (by simp[results,Tryz.results302,go_sem]) rfl ⟨rfl,rfl⟩
theorem dir_Put (db eb d:Nat)(l:List Nat)(i id:Nat)(hi:i<l.length)(w:World)(h:DirAt w db eb d l):Calls Tryz.prog 303 #[dirP db,.int .i64 (i:Int),.int .i64 (id:Int)] w fun e w'=>e= .returned .nilIface∧DirAt w' db eb d (l.set i id)∧Mod [eb] w w':=by
 have hi1:(0:Int)≤(i:Int):=by omega
 have hi2:(i:Int)<(l.length:Int):=by omega
 have hid:¬(id:Int)<0:=by omega
 have ce:=h.entry hi;have fe:=h.row.frozen i;have HEn:=qd (dir_Entry db eb d l i hi w h);have HS:=qd (And.intro (h.set_ i id) ((Mod.refl [eb] w).sl i (.int .i64 (id:Int))));obtain⟨v,hv⟩:∃v,v=l.getD i 0:=⟨_,rfl⟩;rw[←hv]at ce HEn;obtain⟨c0,c1⟩:=h.cells;clear h hv;unfold dirP at HEn⊢;go_in;go_wp2_with fail;refine(HEn.out).mono ?_;rintro y w1 ⟨rfl,rfl⟩;go_wp2;go_ret;exact⟨rfl,HS.out⟩
end
def fromOf (p pd d:Nat):Nat:=p*2^(d-pd)
def setN (l:List Nat)(fr id:Nat):Nat→List Nat
 |0=>l
 |j+1=>(setN l fr id j).set (fr+j) id
section
structure CopAt (w:World)(cb ob oe fb fe d next:Nat)(lo lf:List Nat):Prop where
 blk:Blk w cb 309 #[.pointer (some ⟨ob,0,none⟩),.pointer (some ⟨fb,0,none⟩),.int .i64 (next:Int),.bool false]
 old:DirAt w ob oe d lo
 fresh:DirAt w fb fe (d+1) lf
 le:next≤lo.length
 nd: [cb,ob,oe,fb,fe].Nodup
section
variable {w w' : World} {cb ob oe fb fe d next : Nat} {lo lf : List Nat}
theorem CopAt.mod {S:List Nat}(h:CopAt w cb ob oe fb fe d next lo lf)(hm:Mod S w w')(hs:∀q∈[cb,ob,oe,fb,fe],q∉S):CopAt w' cb ob oe fb fe d next lo lf:=
 ⟨h.blk.mod hm (hs _ (by simp)),h.old.mod hm (hs _ (by simp)) (hs _ (by simp)),h.fresh.mod hm (hs _ (by simp)) (hs _ (by simp)),h.le,h.nd⟩
instance {w w':World}{cb ob oe fb fe d next:Nat}{lo lf:List Nat}:Md (CopAt w cb ob oe fb fe d next lo lf) w w' (CopAt w' cb ob oe fb fe d next lo lf) (fun S=>∀q∈[cb,ob,oe,fb,fe],q∉S):=⟨fun h hm hs=>h.mod hm hs⟩
theorem CopAt.lt (h:CopAt w cb ob oe fb fe d next lo lf):cb<w.heap.size:=h.blk.lt
end
def copP (b:Nat):Value:= .pointer (some ⟨b,0,none⟩)
def dblN (lf:List Nat)(i id:Nat):Nat→List Nat
 |0=>lf
 |j+1=>(dblN lf i id j).set (2*i+j) id
theorem dblN_length (lf:List Nat)(i id:Nat):∀j,(dblN lf i id j).length=lf.length
 |0=>rfl
 |j+1=>by unfold dblN;rw[List.length_set,dblN_length lf i id j]
theorem copyist_Left (cb ob oe fb fe d next:Nat)(lo lf:List Nat)(w:World)(h:CopAt w cb ob oe fb fe d next lo lf):
  Calls Tryz.prog 262 #[copP cb] w fun e w'=>e= .returned (.int .i64 ((lo.length-next:Nat):Int))∧w.drew=w':=by
 have HLn:=qd (dir_Len ob oe d lo w.drew (h.old.mod (Mod.drewN [] w 1) (by simp) (by simp)));have hle:=h.le;have hls:=h.old.small;obtain⟨n,hn⟩:∃n,n=lo.length:=⟨_,rfl⟩;rw[←hn]at HLn hle hls⊢
 have hwr:IntKind.i64.wrap ((n:Int)-(next:Int))=((n-next:Nat):Int):=by rw[sub_nat hle,IntKind.wrap_i64];omega
 unfold dirP at HLn;unfold copP;have c0:=h.blk.cell 0;have c2:=h.blk.cell 2;simp only[gl]at c0 c2;clear h hn;go_in;go_upto_region 1 with fail;refine rT (fun(w':World)=>w'.cell? ⟨cb,0,none⟩=some (.pointer (some ⟨ob,0,none⟩))∧w'.cell? ⟨cb,2,none⟩=some (.int .i64 (next:Int))) [] ?_;have hHeld:=(⟨c0,c2⟩:_∧_);refine vW 0 rfl ?_;refine vW 1 rfl ?_;refine vW 2 rfl ?_;refine vT 3 rfl ?_;refine vW 5 rfl ?_;refine vW 6 rfl ?_;refine vW 7 rfl ?_;refine vT 8 rfl ?_;refine nT 4 rfl fun K hK=> ?_;go_simp;refine(HLn.out).mono ?_;rintro y w1 ⟨rfl,rfl⟩;go_wp2_with fail;have hHeld:=(⟨c0,c2⟩:_∧_);refine kO hK ?_;clear hK K;refine vW 9 rfl ?_;refine vW 10 rfl ?_;refine doneT (by kernel_rfl) ?_ _;go_wp2;go_ret;exact⟨rfl,rfl⟩
theorem copyist_double (cb ob oe fb fe d next:Nat)(lo lf:List Nat)(i:Nat)(hi:i<lo.length)(w:World)(h:CopAt w cb ob oe fb fe d next lo lf):
  Calls Tryz.prog 288 #[copP cb,.int .i64 (i:Int)] w fun e w'=>e= .returned undef∧DirAt w' fb fe (d+1) (dblN lf i (lo.getD i 0) 2)∧Mod [fe] w w':=by
 have hnd:=h.nd;simp at hnd;have HEn:=qd (dir_Entry ob oe d lo i hi w h.old);obtain⟨id,hid⟩:∃id,id=lo.getD i 0:=⟨_,rfl⟩;rw[←hid]at HEn⊢;have hls:=h.old.small;have hl1:=h.old.len;have hl2:=h.fresh.len;have hp:=Nat.pow_succ 2 d
 have hil:2*i+1<lf.length:=by omega
 have HMu:=qd (must_int (id:Int) w);have HND:=qd (trap_Need);have HF:=qd h.fresh;unfold dirP at HEn;unfold copP
 have hi0:(0:Int)≤(i:Int):=by omega
 have hi32:i<32:=by omega
 have HC:=qd (h.blk);have Hmod:=qd (Mod.refl [fe] w);clear h hid hl1 hl2 hp hi;go_in;have cc:=HC.out.c4;go_wp2_with fail;refine(HEn.out).mono ?_;rintro y w1 ⟨rfl,rfl⟩;go_wp2_with fail;refine(HMu.out).mono ?_;rintro y w1 ⟨rfl,rfl⟩;go_wp2;clear cc;go_loopw [5,15] (fun _ k wr=>∃j:Nat,j≤2∧k= .int .i64 j∧DirAt wr fb fe (d+1) (dblN lf i id j)∧Blk wr cb 309 #[.pointer (some ⟨ob,0,none⟩),.pointer (some ⟨fb,0,none⟩),.int .i64 (next:Int),.bool false]∧Mod [fe] w wr) (fun _ k _=>2-(intOf k).toNat)
 case atStart=>exact⟨0,by omega,rfl,HF.out,HC.out,Hmod.out⟩
 case round=>
  clear HF HC Hmod;obtain⟨j,hj,rfl,hF,hC,hm⟩:=hrel;by_cases hlt:j<2
  ·have hlt':(j:Int)<2:=by omega
   have hj0:(0:Int)≤(j:Int):=by omega
   have hln:(dblN lf i id j).length=lf.length:=dblN_length lf i id j;have HPt:=qd (dir_Put fb fe (d+1) _ (2*i+j) id (by omega) wr hF)
   have hcst:((2*i+j:Nat):Int)=2*(i:Int)+(j:Int):=by omega
   rw[hcst]at HPt;unfold dirP at HPt
   have hw1:IntKind.i64.wrap (2*(i:Int))=2*(i:Int):=by rw[IntKind.wrap_i64];omega
   have hw2:IntKind.i64.wrap (2*(i:Int)+(j:Int))=2*(i:Int)+(j:Int):=by rw[IntKind.wrap_i64];omega
   have HC:=qd (hC);have Hmod:=qd (hm);clear hF hC hm hcst hln;have cc:=HC.out.c4;go_wp2_with fail;refine(HPt.out).mono ?_;rintro x w2 ⟨rfl,hF2,hm⟩;clear cc;replace HC:=qM hm HC;have z1:=(hm).size;replace Hmod:=qU Hmod hm;clear hm;have HF2:=qd (show DirAt w2 fb fe (d+1) (dblN lf i id (j+1))from hF2);clear hF2 HPt;go_wp2_with fail;refine(HND.out _).mono ?_;rintro y w3 ⟨rfl,rfl⟩;go_wp2;go_roundw
   case rel=>exact⟨j+1,by omega,by go_num,HF2.out,HC.out,Hmod.out⟩
   case measure=>simp[intOf];omega
  ·obtain rfl:j=2:=by omega
   have hlt':¬((2:Nat):Int)<2:=by omega
   have HZ:=qd (And.intro hF hm);clear hF hC hm;go_wp2;go_end0;exact⟨rfl,HZ.out⟩
theorem copyist_Step (cb ob oe fb fe d next:Nat)(lo lf:List Nat)(P:MP)(x:Mtr)(hnx:next<lo.length)(w:World)(h:CopAt w cb ob oe fb fe d next lo lf)(hM:MetP w P x)(hmf:P.mb∉[cb,ob,oe,fb,fe]):
  Calls Tryz.prog 345 #[copP cb,.pointer (some ⟨P.mb,P.mo,none⟩)] w fun e w'=>e= .returned (.bool true)∧CopAt w' cb ob oe fb fe d (next+1) lo (dblN lf next (lo.getD next 0) 2)∧MetP w' P (x.add (cU 1) 1)∧Mod [P.mb,cb,fe] w w':=by
 have hnd:=h.nd;simp at hnd;simp only[List.mem_cons,List.not_mem_nil,or_false,not_or]at hmf;have hml:=hM.lt;have HLf:=qd (copyist_Left cb ob oe fb fe d next lo lf w h)
 obtain⟨dn,hdn⟩:∃dn,dn=lo.length-next:=⟨_,rfl⟩
 rw[←hdn]at HLf
 have hd0:¬(dn:Int)=0:=by omega
 have hd1:¬dn=0:=by omega
 have hls:=h.old.small;unfold copP at HLf⊢;clear hdn;have HK:=qd (h);have HM:=qd (hM);have Hmod:=qd (Mod.refl [P.mb,cb,fe] w);clear h hM;go_in;go_wp2_with fail;refine(HLf.out).mono ?_;rintro y w1 ⟨rfl,hw1⟩;have hm:Mod [] w w1:=hw1▸Mod.drewN [] w 1;clear hw1 HLf;replace HK:=qd (HK.out.mod hm (by intro q hq;simp at hq;simp<;>omega));replace HM:=qM hm HM;have z1:=(hm).size;replace Hmod:=qU Hmod hm;clear hm;have HU:=qd (meter_Unit P.mb P.mt P.pre P.post P.mo _ _ P.m 1 (by omega) w1 HM.out);clear HM;go_wp2_with fail;refine(HU.out).mono ?_;rintro x w2 ⟨rfl,hM2,hm⟩;replace HK:=qd (HK.out.mod hm (by intro q hq;simp at hq;simp<;>omega));have z2:=(hm).size;replace Hmod:=qU Hmod hm;clear hm;have HM:=qd (show MetP w2 P (x.add (cU 1) 1)from hM2);clear hM2 HU;have HDb:=qd (copyist_double cb ob oe fb fe d next lo lf next hnx w2 HK.out);unfold copP at HDb;have HB:=qd HK.out.blk;have HO:=qd HK.out.old;have HLe:=qd HK.out.nd;clear HK;have bc:=HB.out.c4;go_wp2_with fail;refine(HDb.out).mono ?_;rintro x w3 ⟨rfl,hF,hm⟩;clear bc;replace HM:=qM hm HM;replace HB:=qM hm HB;replace HO:=qM hm HO;have z3:=(hm).size;replace Hmod:=qU Hmod hm;clear hm;have HF:=qd (hF);clear hF HDb;have bc:=HB.out.c4;have bf:=HB.out.f4;go_upto_region 6 with fail;have q4:=qJ HM.out.lt (qJ HB.out.lt (qJ HO.out.lt (qJ HO.out.ltE (qJ HF.out.lt HF.out.ltE))));refine qS1 HB.out ?_;rintro w4 ⟨hnew,hm⟩;simp only[pt]at hnew;replace HM:=qM hm HM;replace HO:=qM hm HO;replace HF:=qM hm HF;have z10:=(hm).size;replace Hmod:=qU Hmod hm
 replace HB:=qd hnew;clear hnew hm;go_wp2;go_ret;exact⟨rfl,⟨HB.out,HO.out,HF.out,by omega,HLe.out⟩,HM.out,Hmod.out⟩
end
def dblL (lf lo:List Nat)(fr:Nat):Nat→List Nat
 |0=>lf
 |j+1=>dblN (dblL lf lo fr j) (fr+j) (lo.getD (fr+j) 0) 2
section
structure QuIn (w:World)(qb rb:Nat)(ring:List Nat)(first:Nat)(ids:List Nat):Prop where
 blk:Blk w qb 242 #[.slice (some ⟨rb,0,none⟩) 40 40,.int .i64 (first:Int),.int .i64 (ids.length:Int)]
 row:Blk w rb 3 (intCells ring)
 len:ring.length=40
 lt40:first<40
 many:ids.length≤40
 at_:∀i,i<ids.length→ring.getD ((first+i) % 40) 0=ids.getD i 0
 ne:qb≠rb
section
variable {w w' : World} {qb rb : Nat} {ring : List Nat} {first : Nat} {ids : List Nat}
theorem QuIn.mod {S:List Nat}(h:QuIn w qb rb ring first ids)(hm:Mod S w w')(h1:qb∉S)(h2:rb∉S):QuIn w' qb rb ring first ids:=⟨h.blk.mod hm h1,h.row.mod hm h2,h.len,h.lt40,h.many,h.at_,h.ne⟩
instance {w w':World}{qb rb first:Nat}{ring ids:List Nat}:Md (QuIn w qb rb ring first ids) w w' (QuIn w' qb rb ring first ids) (fun S=>qb∉S∧rb∉S):=⟨fun h hm hs=>h.mod hm hs.1 hs.2⟩
theorem QuIn.lt (h:QuIn w qb rb ring first ids):qb<w.heap.size:=h.blk.lt
theorem QuIn.ltR (h:QuIn w qb rb ring first ids):rb<w.heap.size:=h.row.lt
theorem QuIn.entry (h:QuIn w qb rb ring first ids){i:Nat}(hi:i<40):w.cell? ⟨rb,i,none⟩=some (.int .i64 ((ring.getD i 0:Nat):Int)):=by
 rw[h.row.cell i];unfold intCells;rw[List.getElem?_toArray,List.getElem?_map,List.getD_eq_getElem?_getD,List.getElem?_eq_getElem (by rw[h.len];exact hi)];rfl
end
def quP (b:Nat):Value:= .pointer (some ⟨b,0,none⟩)
def intVals (l:List Nat):List Value:=l.map fun n:Nat=>Value.int .i64 (n:Int)
theorem queue_New (w:World):
  Calls Tryz.prog 122 #[.int .i64 40] w fun e w'=>e= .returned (.tuple #[quP (w.heap.size+1),.nilIface])∧QuIn w' (w.heap.size+1) w.heap.size (List.replicate 40 0) 0 []∧Below w.heap.size w w':=by
 have hmk:=make_ints 40 (by omega) w;have hc:((40:Nat):Int)=40:=rfl;rw[hc]at hmk
 have HE:=qd (show QuIn ((w.alloc (.cells (intCells (List.replicate 40 0)) 3)).alloc (.cells #[.slice (some ⟨w.heap.size,0,none⟩) 40 40,.int .i64 0,.int .i64 0] 242)) (w.heap.size+1) w.heap.size (List.replicate 40 0) 0 []from by
  refine⟨?_,(Blk.new w _ _).alloc _,by simp,by omega,by simp,fun i hi=>by simp at hi,by omega⟩;have:=Blk.new (w.alloc (.cells (intCells (List.replicate 40 0)) 3)) 242 #[.slice (some ⟨w.heap.size,0,none⟩) 40 40,.int .i64 0,.int .i64 0];rw[World.size_alloc]at this
  exact this)
 clear hc;unfold quP;go_in;go_wp2;refine bodyPost_ret (v:= .tuple #[.pointer (some ⟨w.heap.size+1,0,none⟩),.nilIface]) (by simp[results,Tryz.results122,go_sem]) rfl ⟨rfl,HE.out, ?_⟩;exact((Below.refl _ _).alloc (Nat.le_refl _) _).alloc (by simp) _
theorem queue_Head (qb rb:Nat)(ring:List Nat)(first id:Nat)(ids:List Nat)(w:World)(h:QuIn w qb rb ring first (id::ids)):
  Calls Tryz.prog 259 #[quP qb] w fun e w'=>e= .returned (.tuple #[.int .i64 (id:Int),.bool true])∧w.drew=w':=by
 have hf:=h.lt40;have ce:=h.entry hf;have h0:=h.at_ 0 (by simp);rw[Nat.add_zero,Nat.mod_eq_of_lt hf]at h0;rw[h0]at ce;simp only[List.getD_cons_zero]at ce;obtain⟨c0,c1,c2⟩:=h.blk.c3;obtain⟨n,hn⟩:∃n,n=(id::ids).length:=⟨_,rfl⟩;rw[←hn]at c2
 have hn0:¬(n:Int)=0:=by rw[hn];simp;omega
 have hn1:¬n=0:=by omega
 have hf':(first:Int)<40:=by omega
 have hf0:(0:Int)≤(first:Int):=by omega
 clear h h0 hn;unfold quP;go_in;go_upto_region 3 with fail;refine rT (fun(w':World)=>w'.cell? ⟨qb,0,none⟩=some (.slice (some ⟨rb,0,none⟩) 40 40)∧w'.cell? ⟨qb,1,none⟩=some (.int .i64 (first:Int))∧w'.cell? ⟨rb,first,none⟩=some (.int .i64 (id:Int))) [] ?_;have hHeld:=(⟨c0,c1,ce⟩:_∧_∧_);refine vW 0 rfl ?_;refine vW 1 rfl ?_;refine vW 2 rfl ?_;refine vT 3 rfl ?_;refine vW 4 rfl ?_;refine vW 5 rfl ?_;refine vW 6 rfl ?_;refine vT 7 rfl ?_;refine vW 8 rfl ?_;refine vT 9 rfl ?_;refine vW 10 rfl ?_;refine vW 11 rfl ?_;refine doneT (by kernel_rfl) ?_ _;go_wp2;refine bodyPost_ret (v:= .tuple #[.int .i64 (id:Int),.bool true]) (by simp[results,Tryz.results259,go_sem]) rfl ⟨rfl,rfl⟩
end
def idxN (l:List Nat)(v:Nat):Option Nat:=l.findIdx? fun x=>x==v
section
variable {jv k1 k2 k3 qv s : Value}
theorem run_store_f64 (P:Program)(w:World)(a:Addr)(x:Nat)(m:Mode):(store a (.float .f64 x) m).run P w=stored P w a (.float .f64 x) m:=run_store P w a _ m rfl
attribute [local go_sem] run_store_f64
def inB (n m:Int):Bool:=decide (1≤n) && decide (n≤m)
def cfgV (k m i:Int):Value:= .agg #[.int .i64 k,.int .i64 m,.int .i64 i]
theorem plan_within (n m:Int)(w:World):Calls Tryz.prog 51 #[.int .i64 n,.int .i64 m] w fun e w'=>e= .returned (.bool (inB n m))∧w=w':=by
 unfold inB;by_cases h1:1≤n
 ·by_cases h2:n≤m
  ·rw[show(decide (1≤n) && decide (n≤m))=true from by simp[h1,h2]];go_in;go_wp2;go_ret;exact⟨rfl,rfl⟩
  ·rw[show(decide (1≤n) && decide (n≤m))=false from by simp[h2]];go_in;go_wp2;go_ret;exact⟨rfl,rfl⟩
 ·rw[show(decide (1≤n) && decide (n≤m))=false from by simp[h1]];go_in;go_wp2;go_ret;exact⟨rfl,rfl⟩
def cfgOk (k m i:Int):Bool:=inB k 64 && (inB m 192 && inB i 8)
theorem plan_Check {E:Nat→Addr}(k m i:Int)(w:World)(hE:ErrsC E w):Calls Tryz.prog 83 #[cfgV k m i] w fun e w'=>e= .returned (if cfgOk k m i=true then .nilIface else errV E 1)∧Below w.heap.size w w':=by
 have hB:=(Below.refl w.heap.size w).alloc (Nat.le_refl _) (.cells #[.int .i64 k,.int .i64 m,.int .i64 i] 23);have hC:=Blk.new w 23 #[.int .i64 k,.int .i64 m,.int .i64 i];obtain⟨W,hW⟩:∃W,W=w.alloc (.cells #[.int .i64 k,.int .i64 m,.int .i64 i] 23):=⟨_,rfl⟩;rw[←hW]at hB hC;obtain⟨c0,c1,c2⟩:=hC.c3;have HW:=qd hW;have HB:=qd hB;have her:=hE.at_ 1 (by omega) (by omega);have hbk:=hE.below hB (Nat.le_refl _);replace her:=hbk.at_ 1 (by omega) (by omega);unfold ErrAt gE at her;simp only at her;have HP:=qd (plan_within);unfold cfgV;clear hW hB hC hE hbk;unfold cfgOk
 cases h1:inB k 64 with
 |false=>
  simp only[Bool.false_and,Bool.false_eq_true,if_false];go_in;go_upto_region 1 with fail;rw[←HW.out];have HQ:=qd (HP.out k 64 W);rw[h1]at HQ;go_wp2_with fail;refine(HQ.out).mono ?_;rintro y w1 ⟨rfl,rfl⟩;clear HQ;go_wp2;go_ret;exact⟨by rw[errV_pos E (by omega:1≤1)];rfl,HB.out⟩
 |true=>
  cases h2:inB m 192 with
  |false=>
   simp only[Bool.true_and,Bool.false_and,Bool.false_eq_true,if_false];go_in;go_upto_region 1 with fail;rw[←HW.out];have HQ:=qd (HP.out k 64 W);rw[h1]at HQ;go_wp2_with fail;refine(HQ.out).mono ?_;rintro y w1 ⟨rfl,rfl⟩;clear HQ;have HQ:=qd (HP.out m 192 W);rw[h2]at HQ;go_wp2_with fail;refine(HQ.out).mono ?_;rintro y w1 ⟨rfl,rfl⟩;clear HQ;go_wp2;go_ret;exact⟨by rw[errV_pos E (by omega:1≤1)];rfl,HB.out⟩
  |true=>
   cases h3:inB i 8 with
   |false=>
    simp only[Bool.true_and,Bool.false_eq_true,if_false];go_in;go_upto_region 1 with fail;rw[←HW.out];have HQ:=qd (HP.out k 64 W);rw[h1]at HQ;go_wp2_with fail;refine(HQ.out).mono ?_;rintro y w1 ⟨rfl,rfl⟩;clear HQ;have HQ:=qd (HP.out m 192 W);rw[h2]at HQ;go_wp2_with fail;refine(HQ.out).mono ?_;rintro y w1 ⟨rfl,rfl⟩;clear HQ;have HQ:=qd (HP.out i 8 W);rw[h3]at HQ;go_wp2_with fail;refine(HQ.out).mono ?_;rintro y w1 ⟨rfl,rfl⟩;clear HQ;go_wp2;go_ret;exact⟨by rw[errV_pos E (by omega:1≤1)];rfl,HB.out⟩
   |true=>
    simp only[Bool.true_and,if_true];go_in;go_upto_region 1 with fail;rw[←HW.out];have HQ:=qd (HP.out k 64 W);rw[h1]at HQ;go_wp2_with fail;refine(HQ.out).mono ?_;rintro y w1 ⟨rfl,rfl⟩;clear HQ;have HQ:=qd (HP.out m 192 W);rw[h2]at HQ;go_wp2_with fail;refine(HQ.out).mono ?_;rintro y w1 ⟨rfl,rfl⟩;clear HQ;have HQ:=qd (HP.out i 8 W);rw[h3]at HQ;go_wp2_with fail;refine(HQ.out).mono ?_;rintro y w1 ⟨rfl,rfl⟩;clear HQ;go_wp2;go_ret;exact⟨rfl,HB.out⟩
end
section
variable {w : World} {first qb rb : Nat} {ids ring : List Nat}
theorem QuIn.put (h:QuIn w qb rb ring first ids){t:Nat}(ht:t<ids.length)(x:Nat):QuIn (w.setCell ⟨rb,(first+t) % 40,none⟩ (.int .i64 (x:Int))) qb rb (ring.set ((first+t) % 40) x) first (ids.set t x):=by
 have hm:=h.many;have hl:=h.len;have hf:=h.lt40;refine⟨?_, ?_,by rw[List.length_set];exact hl,hf,by rw[List.length_set];exact hm,fun i hi=> ?_,h.ne⟩
 ·rw[List.length_set];exact h.blk.far (p:=⟨rb,(first+t) % 40,none⟩) h.ne _
 ·have:=h.row.set_ ((first+t) % 40) (.int .i64 (x:Int))
  rwa [intCells_set]at this
 ·rw[List.length_set]at hi;rw[List.getD_eq_getElem?_getD,List.getElem?_set,List.getD_eq_getElem?_getD (l:=ids.set t x),List.getElem?_set];by_cases hti:t=i
  ·subst hti;rw[if_pos rfl,if_pos rfl,if_pos (by omega),if_pos ht]
  ·rw[if_neg hti,if_neg (by omega),←List.getD_eq_getElem?_getD,←List.getD_eq_getElem?_getD];exact h.at_ i hi
def shiftN (ids:List Nat)(i:Nat):Nat→List Nat
 |0=>ids
 |k+1=>(shiftN ids i k).set (i+k) (ids.getD (i+k+1) 0)
theorem QuIn.shrink (h:QuIn w qb rb ring first ids):QuIn (w.setCell ⟨qb,2,none⟩ (.int .i64 ((ids.length-1:Nat):Int))) qb rb ring first (ids.take (ids.length-1)):=by
 have hm:=h.many
 have hlt:(ids.take (ids.length-1)).length=ids.length-1:=by rw[List.length_take];omega
 refine⟨?_,h.row.far (p:=⟨qb,2,none⟩) (Ne.symm h.ne) _,h.len,h.lt40,by omega,fun i hi=> ?_,h.ne⟩
 ·rw[hlt];have:=h.blk.set_ 2 (.int .i64 ((ids.length-1:Nat):Int));simpa using this
 ·rw[hlt]at hi;rw[h.at_ i (by omega),List.getD_eq_getElem?_getD,List.getD_eq_getElem?_getD,List.getElem?_take,if_pos hi]
end
section
variable {ops : Array Oper} {rest : List Oper} {o : Oper} {a : Act} {Q : Exit → Act → World → Prop}
def heldV (v:Value):Option (DataW Value×List MemPlace):=some (.held v,[])
def JobMap (w:World)(b n:Nat)(f:Int→Option Value):Prop:=
 ∃D:DataW Value,w.ownsMap Tryz.prog 3 heldV b n D∧size D=n∧∀x,(Lit.int .i64 x).wf=true→has D (.int .i64 x)=(f x).isSome∧∀v,f x=some v→∀z,D.atKey (.int .i64 x) z= .held v
section
variable {b n : Nat} {f : Int → Option Value} {w w' : World}
theorem JobMap.made (w:World):JobMap (w.alloc (.map #[] 0)) w.heap.size 0 (fun _=>none):=
 ⟨_,World.ownsMap_made w _ _ _,rfl,fun x _=>⟨rfl,fun v hv=>by cases hv⟩⟩
theorem JobMap.lt (h:JobMap w b n f):b<w.heap.size:=by
 obtain⟨D,h1,_⟩:=h;exact h1.lt
theorem JobMap.mod {S:List Nat}(h:JobMap w b n f)(hm:Mod S w w')(hb:b∉S):JobMap w' b n f:=by
 have hlt:=h.lt;obtain⟨D,⟨es,clock,hh,r⟩,h2⟩:=h;exact⟨D,⟨es,clock,(hm.block b hlt hb).trans hh,r⟩,h2⟩
instance {w w':World}{b n:Nat}{f:Int→Option Value}:Md (JobMap w b n f) w w' (JobMap w' b n f) (fun S=>b∉S):=⟨fun h hm hs=>h.mod hm hs⟩
theorem JobMap.congr {g:Int→Option Value}(h:JobMap w b n f)(he:∀x,f x=g x):JobMap w b n g:=by
 obtain rfl:f=g:=funext he;exact h
end
end
section
variable {t : TypeId}
def JobT (t:TypeId):Prop:=t=142 ∨t=152
def leftF (t:TypeId):FuncId:=if t=142 then 326 else 262
def stepF (t:TypeId):FuncId:=if t=142 then 327 else 345
def schP (b:Nat):Value:= .pointer (some ⟨b,0,none⟩)
def SchB (w:World)(sb qb jb:Nat)(k b s:Int):Prop:=Blk w sb 195 #[.int .i64 k,.int .i64 1,.int .i64 1,.pointer (some ⟨qb,0,none⟩),.map (some jb),.int .i64 b,.float .f64 0,.int .i64 s]
section
variable {w w' : World} {sb qb jb : Nat} {k b s : Int}
theorem SchB.lt (h:SchB w sb qb jb k b s):sb<w.heap.size:=Blk.lt h
theorem SchB.mod {S:List Nat}(h:SchB w sb qb jb k b s)(hm:Mod S w w')(hs:sb∉S):SchB w' sb qb jb k b s:=Blk.mod h hm hs
instance {w w':World}{sb qb jb:Nat}{k b s:Int}:Md (SchB w sb qb jb k b s) w w' (SchB w' sb qb jb k b s) (fun S=>sb∉S):=⟨fun h hm hs=>SchB.mod h hm hs⟩
end
end
end Go.Proofs.YtfbljmcjadfkoaaGreatDoor
