/- A scheduler's New, Add, Remove by their contracts. -/
import Derived.Test.YtfbljmcjadfkoaaGreatDoorCoBQ
import Derived.Test.YtfbljmcjadfkoaaGreatDoorSqM
import Derived.Test.YtfbljmcjadfkoaaGreatDoorSq
import Derived.Test.YtfbljmcjadfkoaaGreatDoorHeldI
import Derived.Test.YtfbljmcjadfkoaaGreatDoorCoT
import Derived.Maps.OwnIn
import Derived.Test.YtfbljmcjadfkoaaGreatDoorCoEnv
namespace Go.Proofs.YtfbljmcjadfkoaaGreatDoor
set_option maxRecDepth 100000
set_option maxHeartbeats 8000000
open Go.RowKit AmC Go.Shelf
section
variable {id : Nat}
def jobsF (val:Nat→Value)(ids:List Nat):Int→Option Value:=fun x=>if 0≤x∧x.toNat∈ids then some (val x.toNat)else none
structure SchAt (w:World)(sb qb rb jb:Nat)(k b:Int)(val:Nat→Value)(ids:List Nat):Prop where
 blk:∃s,SchB w sb qb jb k b s
 que:∃ring first,QuIn w qb rb ring first ids
 map:JobMap w jb ids.length (jobsF val ids)
 nd:ids.Nodup
 apart: [sb,qb,rb,jb].Nodup
section
variable {w w' : World} {sb qb rb jb : Nat} {k b : Int} {val : Nat → Value} {ids : List Nat}
theorem SchAt.mod {S:List Nat}(h:SchAt w sb qb rb jb k b val ids)(hm:Mod S w w')(hs:∀q∈[sb,qb,rb,jb],q∉S):SchAt w' sb qb rb jb k b val ids:=by
 obtain⟨s,h1⟩:=h.blk;obtain⟨ring,first,h2⟩:=h.que;exact⟨⟨s,h1.mod hm (hs _ (by simp))⟩,⟨ring,first,h2.mod hm (hs _ (by simp)) (hs _ (by simp))⟩,h.map.mod hm (hs _ (by simp)),h.nd,h.apart⟩
theorem SchAt.lt (h:SchAt w sb qb rb jb k b val ids):∀q∈[sb,qb,rb,jb],q<w.heap.size:=by
 obtain⟨s,h1⟩:=h.blk;obtain⟨ring,first,h2⟩:=h.que;have:=h1.lt;have:=h2.lt;have:=h2.ltR;have:=h.map.lt;intro q hq;simp at hq
 rcases hq with rfl|rfl|rfl|rfl<;>assumption
theorem SchAt.many (h:SchAt w sb qb rb jb k b val ids):ids.length≤40:=by
 obtain⟨ring,first,h2⟩:=h.que;exact h2.many
end
theorem sched_New {E:Nat→Addr}(k:Int)(hk:1≤k∧k≤64)(val:Nat→Value)(w:World)(hE:ErrsC E w):
  Calls Tryz.prog 86 #[.int .i64 k] w fun e w'=>∃sb qb rb jb,e= .returned (.tuple #[schP sb,.nilIface])∧SchAt w' sb qb rb jb k 0 val []∧(∀q∈[sb,qb,rb,jb],w.heap.size≤q)∧Below w.heap.size w w':=by
 have hB:=(Below.refl w.heap.size w).alloc (Nat.le_refl _) (.cells #[.int .i64 k,.int .i64 1,.int .i64 1] 23);have hC:=Blk.new w 23 #[.int .i64 k,.int .i64 1,.int .i64 1];obtain⟨W,hW⟩:∃W,W=w.alloc (.cells #[.int .i64 k,.int .i64 1,.int .i64 1] 23):=⟨_,rfl⟩;rw[←hW]at hB hC;have HP:=qd (plan_Check k 1 1 W (hE.below hB (Nat.le_refl _)));rw[show(if cfgOk k 1 1=true then Value.nilIface else errV E 1)=Value.nilIface from by rw[if_pos];simp[cfgOk,inB,hk]]at HP;have hsz:=hC.lt;have HC:=qd hC;have HW:=qd hW;have HB:=qd hB;unfold cfgV at HP;unfold schP;have c:=hC.c3;clear hW hB hC hE hk;go_in;go_upto_region 2 with fail;rw[←HW.out];go_wp2_with fail;refine HP.out.mono ?_;rintro x w1 ⟨rfl,hb⟩;replace HC:=qB hb HC;replace HB:=qd (HB.out.trans (hb.mono HB.out.size));have hz1:=hb.size;clear hb c;go_wp2_with fail;have HN:=queue_New w1;unfold quP at HN;refine HN.mono ?_;clear HN;rintro x w2 ⟨rfl,hq,hb⟩;obtain⟨qb,hqb⟩:∃q,q=w1.heap.size+1:=⟨_,rfl⟩;obtain⟨rb,hrb⟩:∃q,q=w1.heap.size:=⟨_,rfl⟩;rw[←hqb,←hrb]at hq;rw[←hqb];replace HC:=qB hb HC;replace HB:=qd (HB.out.trans (hb.mono (Nat.le_trans HB.out.size (Nat.le_refl _))));have hz2:=hb.size;have hql:=hq.lt;have hrl:=hq.ltR;have HQ:=qd hq
 have hqge:w.heap.size≤qb∧w.heap.size≤rb∧qb≠rb:=by omega
 clear hb hq hqb hrb;have c:=HC.out.c3;have hmm:=@run_makeMap Tryz.prog;go_wp2
 have hfin:SchAt ((w2.alloc (.map #[] 0)).alloc (.cells #[.int .i64 k,.int .i64 1,.int .i64 1,.pointer (some ⟨qb,0,none⟩),.map (some w2.heap.size),.int .i64 0,.float .f64 0,.int .i64 0] 195)) (w2.heap.size+1) qb rb w2.heap.size k 0 val []:=by
  have hm:=(Mod.refl [] w2).alloc (.map #[] 0);have hm2:=(Mod.refl [] (w2.alloc (.map #[] 0))).alloc (.cells #[.int .i64 k,.int .i64 1,.int .i64 1,.pointer (some ⟨qb,0,none⟩),.map (some w2.heap.size),.int .i64 0,.float .f64 0,.int .i64 0] 195);refine⟨⟨0, ?_⟩,⟨_,0,(HQ.out.mod hm (by simp) (by simp)).mod hm2 (by simp) (by simp)⟩,((JobMap.made w2).mod hm2 (by simp)).congr (fun x=>by simp[jobsF]),by simp,by simp;omega⟩;have:=Blk.new (w2.alloc (.map #[] 0)) 195 #[.int .i64 k,.int .i64 1,.int .i64 1,.pointer (some ⟨qb,0,none⟩),.map (some w2.heap.size),.int .i64 0,.float .f64 0,.int .i64 0];rw[World.size_alloc]at this;exact this
 have hsz2:w.heap.size≤w2.heap.size:=HB.out.size;refine bodyPost_ret (v:= .tuple #[.pointer (some ⟨w2.heap.size+1,0,none⟩),.nilIface]) (by simp[results,Tryz.results86,go_sem]) rfl ?_;refine⟨_,_,_,_,rfl,hfin, ?_, ?_⟩
 ·first|omega|(simp;omega)
 ·exact(HB.out.alloc hsz2 _).alloc (by simp;omega) _
end
section
attribute [local go_sem] Oper.semAt_some
def boxRow (A:World)(ob:Nat):Option Nat:=(A.cell? ⟨ob,0,none⟩).bind Value.ownBlock
structure KeepO (n₀ ob:Nat)(A B:World):Prop where
 keep:KeepS n₀ [ob] A B
 cells:∀(k:Nat) (o:Obj),A.heap[k]?=some o→o.isCells=true→k≠ob→boxRow A ob≠some k→B.heap[k]?=some o
 row:∀k,boxRow B ob=some k→boxRow A ob=some k∨A.heap.size≤k
theorem KeepO.refl (n₀ ob:Nat)(A:World):KeepO n₀ ob A A:=⟨KeepS.refl _ _ _,fun _ _ h _ _ _=>h,fun _ h=> .inl h⟩
def nthQ (ids:List Nat)(x:Fin ids.length):Nat:=ids.getD x.val 0
abbrev quEnc (ids:List Nat)(x:Fin ids.length):Array Value:= #[.int .i64 (x.val:Int),.int .i64 ((nthQ ids x:Nat):Int)]
end
section
variable {t : TypeId} {base : Nat} {v : Value}
attribute [local go_sem] Oper.semAt_some
def atQ (ids:List Nat)(pre:List (Fin ids.length)):List Nat:=pre.map (nthQ ids)
end
section
variable {x y : Mtr} {base n p q u : Nat} {F' S : List Nat} {e : TypeId} {xs : List Value}
def Cost (x x':Mtr)(p u:Nat):Prop:=0≤x.last.p→0≤x.last.u→0≤x'.last.p∧x'.last.p≤x.last.p+p∧0≤x'.last.u∧x'.last.u≤x.last.u+u
theorem Cost.refl (x:Mtr):Cost x x 0 0:=fun h1 h2=>⟨h1,by omega,h2,by omega⟩
theorem Cost.trans {z:Mtr}{v:Nat}(h:Cost x y p u)(k:Cost y z q v):Cost x z (p+q) (u+v):=fun h1 h2=>by
 obtain⟨a,b,c,d⟩:=h h1 h2;obtain⟨a',b',c',d'⟩:=k a c;exact⟨a',by omega,c',by omega⟩
theorem Cost.mono {v:Nat}(h:Cost x y p u)(hp:p≤q)(hu:u≤v):Cost x y q v:=fun h1 h2=>by
 obtain⟨a,b,c,d⟩:=h h1 h2;exact⟨a,by omega,c,by omega⟩
def mtrP (P:MP):Value:= .pointer (some ⟨P.mb,P.mo,none⟩)
structure PoolOk (W0:World)(E:Nat→Addr)(P:MP){α:Type}(jt:Nat→TypeId)(ja:Nat→Addr)(At:World→List Nat→α→Prop)(can:α→Nat→Prop)(left:α→Nat→Nat)(Stp:α→Nat→α→Prop):Prop where
 jt_:∀{a id},can a id→JobT (jt id)
 lt:∀{V F a},At V F a→∀q∈F,q<V.heap.size∧W0.heap.size≤q
 mb:∀{V F a},At V F a→P.mb∉F
 stab:∀{V V' F S a},At V F a→Mod S V V'→(∀q∈F,q∉S)→At V' F a
 le:∀{V F a id},At V F a→can a id→left a id≤1000
 left_:∀{V F a id},At V F a→can a id→Calls Tryz.prog (leftF (jt id)) #[.pointer (some (ja id))] V fun e V'=>e= .returned (.int .i64 (left a id:Int))∧Below V.heap.size V V'
 step_:∀{V F a id x},At V F a→can a id→1≤left a id→Env W0 E V→MetP V P x→Calls Tryz.prog (stepF (jt id)) #[.pointer (some (ja id)),mtrP P] V fun e V'=>e= .returned (.bool true)∧∃a' F' x',Stp a id a'∧At V' F' a'∧(∀q∈F',q∈F∨V.heap.size≤q)∧MetP V' P x'∧Cost x x' 0 1∧Mod (P.mb::F) V V'
 can_:∀{a id a' j},Stp a id a'→can a j→can a' j
 left_same:∀{a id a' j},Stp a id a'→j≠id→left a' j=left a j
 left_less:∀{a id a'},Stp a id a'→left a' id+1=left a id
structure SP where
 sb:Nat
 qb:Nat
 rb:Nat
 jb:Nat
 k:Int
 val:Nat→Value
def SP.blocks (s:SP):List Nat:=[s.sb,s.qb,s.rb,s.jb]
structure SchSt (W0:World)(E:Nat→Addr)(P:MP){α:Type}(At:World→List Nat→α→Prop)(s:SP)(w0:World)(F0:List Nat)(w:World)(b:Int)(ids:List Nat)(a:α)(F:List Nat)(x:Mtr):Prop where
 sch:SchAt w s.sb s.qb s.rb s.jb s.k b s.val ids
 pool:At w F a
 met:MetP w P x
 env:Env W0 E w
 apart:∀q∈s.blocks,q∉F∧q≠P.mb∧W0.heap.size≤q
 mb0:W0.heap.size≤P.mb
 le0:W0.heap.size≤w0.heap.size
 sub:∀q∈F,q∈F0∨w0.heap.size≤q
 mod:Mod (P.mb::(s.blocks++F0)) w0 w
section
variable {W0 w0 w w' : World} {E : Nat → Addr} {P : MP} {α : Type} {jt : Nat → TypeId} {ja : Nat → Addr} {At : World → List Nat → α → Prop} {can : α → Nat → Prop} {left : α → Nat → Nat} {Stp : α → Nat → α → Prop}
 {s:SP} {F0 F:List Nat} {b:Int} {ids:List Nat} {a:α} {x:Mtr}
theorem SchSt.size (h:SchSt W0 E P At s w0 F0 w b ids a F x):w0.heap.size≤w.heap.size:=h.mod.size
theorem SchSt.start (hs:SchAt w s.sb s.qb s.rb s.jb s.k b s.val ids)(hp:At w F a)(hm:MetP w P x)(he:Env W0 E w)(ha:∀q∈s.blocks,q∉F∧q≠P.mb∧W0.heap.size≤q)(hmb:W0.heap.size≤P.mb):SchSt W0 E P At s w F w b ids a F x:=
 ⟨hs,hp,hm,he,ha,hmb,he.size,fun _ h=> .inl h,Mod.refl _ _⟩
theorem SchSt.away (HP:PoolOk W0 E P jt ja At can left Stp)(h:SchSt W0 E P At s w0 F0 w b ids a F x)(hm:Mod S w w')(hS:∀q∈S,w0.heap.size≤q∧q∉F∧q≠P.mb∧q∉s.blocks∧W0.heap.size≤q):SchSt W0 E P At s w0 F0 w' b ids a F x:=
 ⟨h.sch.mod hm (fun q hq hqS=>(hS q hqS).2.2.2.1 hq),HP.stab h.pool hm (fun q hq hqS=>(hS q hqS).2.1 hq),h.met.mod hm (fun hq=>(hS _ hq).2.2.1 rfl),h.env.mod hm (fun q hq=>(hS q hq).2.2.2.2),h.apart,h.mb0,h.le0,h.sub,
  h.mod.trans hm (fun _ hq _=>hq) (fun q hq hl=>by have:=(hS q hq).1;omega)⟩
theorem SchSt.below (HP:PoolOk W0 E P jt ja At can left Stp)(h:SchSt W0 E P At s w0 F0 w b ids a F x)(hb:Below w.heap.size w w'):SchSt W0 E P At s w0 F0 w' b ids a F x:=h.away HP (Mod.of_below hb []) (by simp)
theorem SchSt.own (HP:PoolOk W0 E P jt ja At can left Stp)(h:SchSt W0 E P At s w0 F0 w b ids a F x){b':Int}{ids':List Nat}(hm:Mod S w w')(hS:∀q∈S,q∈s.blocks)(hs:SchAt w' s.sb s.qb s.rb s.jb s.k b' s.val ids'):SchSt W0 E P At s w0 F0 w' b' ids' a F x:=
 ⟨hs,HP.stab h.pool hm (fun q hq hqS=>(h.apart q (hS q hqS)).1 hq),h.met.mod hm (fun hq=>(h.apart _ (hS _ hq)).2.1 rfl),h.env.mod hm (fun q hq=>(h.apart q (hS q hq)).2.2),h.apart,h.mb0,h.le0,h.sub,
  h.mod.trans hm (fun _ hq _=>hq) (fun q hq _=>by simp[hS q hq])⟩
theorem SchSt.stepped (HP:PoolOk W0 E P jt ja At can left Stp)(h:SchSt W0 E P At s w0 F0 w b ids a F x){a':α}{x':Mtr}(hA:At w' F' a')(hF:∀q∈F',q∈F∨w.heap.size≤q)(hM:MetP w' P x')(hm:Mod (P.mb::F) w w'):SchSt W0 E P At s w0 F0 w' b ids a' F' x':=
 ⟨h.sch.mod hm (fun q hq hqS=>by
   have:=h.apart q hq;rcases List.mem_cons.1 hqS with h1|h1
   ·exact this.2.1 h1
   ·exact this.1 h1),hA,hM,h.env.mod hm (fun q hq=>by
   rcases List.mem_cons.1 hq with h1|h1
   ·rw[h1];exact h.mb0
   ·exact(HP.lt h.pool q h1).2),fun q hq=>⟨fun hq'=>by
   rcases hF q hq' with h1|h1
   ·exact(h.apart q hq).1 h1
   ·have:=h.sch.lt q hq;omega,(h.apart q hq).2⟩,h.mb0,h.le0,fun q hq=>by
   rcases hF q hq with h1|h1
   ·exact h.sub q h1
   ·exact .inr (Nat.le_trans h.size h1),
  h.mod.trans hm (fun _ hq _=>hq) (fun q hq hl=>by
   rcases List.mem_cons.1 hq with h1|h1
   ·simp[h1]
   ·rcases h.sub q h1 with h2|h2
    ·simp[h2]
    ·omega)⟩
def RowAp (P:MP)(s:SP)(F:List Nat)(v:Value):Prop:=∀g,v.ownBlock=some g→g∉P.mb::(s.blocks++F)
theorem SchSt.lts (HP:PoolOk W0 E P jt ja At can left Stp)(h:SchSt W0 E P At s w0 F0 w b ids a F x):∀q∈P.mb::(s.blocks++F),q<w.heap.size:=by
 intro q hq;rcases List.mem_cons.1 hq with h1|h1
 ·rw[h1];exact h.met.lt
 ·rcases List.mem_append.1 h1 with h2|h2
  ·exact h.sch.lt q h2
  ·exact(HP.lt h.pool q h2).1
theorem RowAp.step {v:Value}{size:Nat}(h:RowAp P s F v)(hO:w.ownsRow base e size v n xs)(hF:∀q∈F',q∈F∨w.heap.size≤q):RowAp P s F' v:=fun g hg hq=>by
 have hl:=(hO.lt g hg).2;have hn:=h g hg;simp only[List.mem_cons,List.mem_append,not_or]at hn hq;rcases hq with h1|h1|h1
 ·exact hn.1 h1
 ·exact hn.2.1 h1
 ·rcases hF g h1 with h2|h2
  ·exact hn.2.2 h2
  ·omega
end
section
variable {W0 w0 : World} {E : Nat → Addr} {P : MP} {α : Type} {jt : Nat → TypeId} {ja : Nat → Addr} {At : World → List Nat → α → Prop} {can : α → Nat → Prop} {left : α → Nat → Nat} {Stp : α → Nat → α → Prop}
end
inductive Oth {α:Type}(left:α→Nat→Nat)(Stp:α→Nat→α→Prop):Nat→List Nat→α→List Nat→List Nat→α→Prop
 |nil (c:Nat) (a:α):Oth left Stp c [] a [] [] a
 |broke (ids:List Nat) (a:α):Oth left Stp 0 ids a [] ids a
 |ended {c id:Nat} {ids e ids':List Nat} {a a':α} (h:left a id=0) (r:Oth left Stp (c+1) ids a e ids' a'):Oth left Stp (c+1) (id::ids) a (id::e) ids' a'
 |step {c id:Nat} {ids e ids':List Nat} {a b a':α} (h:1≤left a id) (hs:Stp a id b) (r:Oth left Stp c (id::ids) b e ids' a'):Oth left Stp (c+1) (id::ids) a e ids' a'
end
section
variable {c l : Cnt} {cnt gX key p tX : Nat} {V w' : World} {TX : TabM} {S : List Nat}
theorem plusN_p (hp:c.p=(p:Int))(h:0≤l.p):∀n,0≤(plusN l c n).p∧(plusN l c n).p≤l.p+(p*n:Nat)
 |0=>⟨h,by show l.p≤_;omega⟩
 |n+1=>by
  obtain⟨h1,h2⟩:=plusN_p hp h n;show 0≤sumI _ _∧sumI _ _≤_;rw[hp,Nat.mul_succ];unfold sumI clampI;generalize(plusN l c n).p=a at*;generalize p*n=b at*;omega
theorem plusN_u (hp:c.u=(p:Int))(h:0≤l.u):∀n,0≤(plusN l c n).u∧(plusN l c n).u≤l.u+(p*n:Nat)
 |0=>⟨h,by show l.u≤_;omega⟩
 |n+1=>by
  obtain⟨h1,h2⟩:=plusN_u hp h n;show 0≤sumI _ _∧sumI _ _≤_;rw[hp,Nat.mul_succ];unfold sumI clampI;generalize(plusN l c n).u=a at*;generalize p*n=b at*;omega
theorem cost_V (x:Mtr)(n:Nat):Cost x (x.add cV n) 0 0:=fun h1 h2=>by
 obtain⟨a,b⟩:=plusN_p (c:=cV) (p:=0) rfl h1 n;obtain⟨c,d⟩:=plusN_u (c:=cV) (p:=0) rfl h2 n;exact⟨a,by simpa[Mtr.add]using b,c,by simpa[Mtr.add]using d⟩
theorem cost_U (x:Mtr)(k:Nat):Cost x (x.add (cU (k:Int)) 1) 0 k:=fun h1 h2=>by
 obtain⟨a,b⟩:=plusN_p (c:=cU (k:Int)) (p:=0) rfl h1 1;obtain⟨c,d⟩:=plusN_u (c:=cU (k:Int)) (p:=k) rfl h2 1;exact⟨a,by simpa[Mtr.add]using b,c,by simpa[Mtr.add]using d⟩
theorem below2 {w U:World}(h:Below w.heap.size w V)(k:Below V.heap.size V U):Below w.heap.size w U:=((Mod.of_below h []).trans (Mod.of_below k []) (by simp) (by simp)).to_below
theorem SeekTo.next {w:World}{db hash:Nat}{P:MP}{x:Mtr}(h:SeekTo w db P x c key hash tX gX TX cnt)(hV:Below w.heap.size w V):SeekTo V db P x c key hash tX gX TX cnt:=fun U hU=>h U (below2 hV hU)
theorem Through.out {w:World}{R:World→Prop}(h:Through (fun V V'=>R V'∧Mod S V V') w w')(_:∀k∈S,k<w.heap.size)(hR:∀(V':World) (g:Nat),w.heap.size≤g→R V'→Mod [g] V' w'→R w'):R w'∧Mod S w w':=by
 obtain⟨V,V',g,h1,⟨h2,h3⟩,h4,h5,h6⟩:=h;exact⟨hR V' g h4 h2 h6,((Mod.of_below h1 S).then h3).trans h6 (fun _ hh _=>hh) (fun q hq hl=>by simp at hq;omega)⟩
section
variable {W0 : World} {E : Nat → Addr} {H : Nat → Nat} {nb : Nat} {F : List Nat} {N : Nd} {P : MP} {x : Mtr} {w : World}
end
end
section
variable {a b f : Ent} {l' : List Ent} {o : Option Ent} {Ts : List TabM}
def IsLeast (f:Ent)(l:List Ent):Option Ent→Prop
 |none=>∀e∈l,lessE e f=true
 |some m=>m∈l∧lessE m f=false∧∀e∈l,lessE e f=false→lessE e m=false
theorem less_irrefl (a:Ent):lessE a a=false:=by simp[lessE]
theorem one1 (d d' h:Nat):sideOf 1 d h=sideOf 1 d' h:=by unfold sideOf;rw[if_pos rfl,if_pos rfl]
theorem moveOne1 (d d':Nat):moveOne 1 d=moveOne 1 d':=by funext st e;unfold moveOne;rw[one1 d d']
theorem fitsq1 (d d':Nat):∀(es:List Ent) (Ts:List TabM),Fits 1 d Ts es→Fits 1 d' Ts es
 | [],_,_=>trivial
 |e::es,Ts,h=>by
  unfold Fits at h⊢;rw[one1 d' d];exact⟨h.1,fitsq1 d d' es _ h.2⟩
theorem fits_dep {N:Nd}{es:List Ent}(h:Fits N.many N.dpt Ts es):Fits N.many N.dep Ts es:=by
 unfold Nd.dep;split
 ·next h1=>rw[h1]at h⊢;exact fitsq1 _ _ _ _ h
 ·exact h
theorem moveL_dep (N:Nd)(st:Mtr×List TabM)(es:List Ent):moveL N.many N.dep st es=moveL N.many N.dpt st es:=by
 unfold Nd.dep;split
 ·next h1=>rw[h1];unfold moveL;rw[moveOne1]
 ·rfl
section
variable {W0 : World} {E : Nat → Addr} {H : Nat → Nat} {nb : Nat} {F : List Nat} {N : Nd} {P : MP} {x : Mtr} {w : World}
theorem nd_Left (h:NdAt w nb F N)(ho:NOk H N):Calls Tryz.prog 326 #[nodeP nb] w fun e w'=>e= .returned (.int .i64 (N.left:Int))∧Below w.heap.size w w':=by
 have hl:=ho.pw.le;have hph:=ho.ph;unfold PhOk at hph;unfold NdAt at h;unfold Nd.left
 cases hp:N.ph with
 |idle=>
  rw[hp]at h;obtain⟨tb,gb,h1,_⟩:=h;exact(node_Left_tab nb tb N.pfx N.dpt N.kind w h1).mono fun e w' ⟨a,b⟩=>⟨a,b▸Below.refl _ _⟩
 |bld k=>
  rw[hp]at h;obtain⟨db,rb,cap,ob,og,bl,h1,h2,h3,_⟩:=h;have:=dual_Left_bld db rb cap ob og bl N.T N.each N.dep k w h2 hl;rw[h3]at this;exact node_Left_dual nb ob db N.pfx N.dpt N.kind _ (fun V V'=>Below V.heap.size V V') w h1 this
 |mov Ts next=>
  rw[hp]at h hph;obtain⟨db,rb,cap,ob,og,fb,fcap,eb,vb,vcap,bbs,bs,h1,h2,h3,_⟩:=h
  have:=dual_Left_mov db rb cap ob og fb fcap eb vb vcap bbs bs N.T Ts N.each N.dep next w h2 hl hph.2.1
  exact(node_Left_dual nb ob db N.pfx N.dpt N.kind _ (fun V V'=>V.drew=V') w h1 this).mono fun e w' ⟨a,b⟩=>⟨a,b▸(Below.refl _ _).drew⟩
theorem nd_Groups (h:NdAt w nb F N)(ho:NOk H N):Calls Tryz.prog 104 #[nodeP nb] w fun e w'=>e= .returned (.int .i64 (N.groups:Int))∧w=w':=by
 have hl:=ho.pw.le;have hph:=ho.ph;unfold PhOk at hph;unfold NdAt at h;unfold Nd.groups
 cases hp:N.ph with
 |idle=>
  rw[hp]at h;obtain⟨tb,gb,h1,h2,_⟩:=h;exact node_Groups_tab nb tb gb N.pfx N.dpt N.kind N.T w h1 h2
 |bld k=>
  rw[hp]at h hph;obtain⟨db,rb,cap,ob,og,bl,h1,h2,h3,_⟩:=h;obtain⟨k1,k2,_⟩:=kind_each ho.pw hph.1
  have:=dual_Groups db rb cap ob og (bl.map fun b=>b.1) N.T N.each (.int .i64 (N.dep:Int)) (.slice none 0 0) (.pointer none) (.bool false) k1.le (by rw[List.length_map];omega) hl w (by rw[List.length_map];exact h2.blk) h2.row (fun b hb=>by
   obtain⟨c,hc,rfl⟩:=List.mem_map.1 hb;obtain⟨i,hi⟩:=List.getElem?_of_mem hc
   exact⟨_,_,(h2.blds i c hi).blk⟩) h2.tab
  rw[List.length_map,h3]at this;exact node_Groups_dual nb ob db N.pfx N.dpt N.kind _ (fun V V'=>V=V') w h1 this
 |mov Ts next=>
  rw[hp]at h hph;obtain⟨db,rb,cap,ob,og,fb,fcap,eb,vb,vcap,bbs,bs,h1,h2,h3,_⟩:=h;obtain⟨k1,k2,_⟩:=kind_each ho.pw hph.1;have:=dual_Groups db rb cap ob og bbs N.T N.each (.int .i64 (N.dep:Int)) (.slice (some ⟨fb,0,none⟩) bs.length fcap) (.pointer (some ⟨eb,0,none⟩)) (.bool false) k1.le (by rw[h2.eq,h3];omega) hl w h2.blk h2.row (fun b hb=>⟨_,_,h2.blds b hb⟩) h2.tab;rw[h2.eq,h3]at this;exact node_Groups_dual nb ob db N.pfx N.dpt N.kind _ (fun V V'=>V=V') w h1 this
theorem nd_step_dual {nb tb db:Nat}{pfx dpt job:Int}{R:World→Prop}(h:Blk w nb 187 #[.int .i64 pfx,.int .i64 dpt,.pointer (some ⟨tb,0,none⟩),.int .i64 job,.pointer (some ⟨db,0,none⟩)])(hc:Calls Tryz.prog 328 #[dualP db,.pointer (some ⟨P.mb,P.mo,none⟩)] w fun e w'=>e= .returned (.bool true)∧R w'):
  Calls Tryz.prog 327 #[nodeP nb,.pointer (some ⟨P.mb,P.mo,none⟩)] w fun e w'=>e= .returned (.bool true)∧R w':=node_Step_dual nb tb db pfx dpt job P (fun _ V'=>R V') w h hc
theorem nd_Step (h:NdAt w nb F N)(ho:NOk H N)(hl:1≤N.left)(hM:MetP w P x)(hE:Env W0 E w)(hb0:W0.heap.size≤P.mb)(hF:P.mb∉F)(hbF:∀q∈F,W0.heap.size≤q):
  Calls Tryz.prog 327 #[nodeP nb,mtrP P] w fun e w'=>e= .returned (.bool true)∧∃F' x',NdAt w' nb F' N.step∧(∀q∈F',q∈F∨w.heap.size≤q)∧MetP w' P x'∧Cost x x' 0 1∧Mod (P.mb::F) w w':=by
 have hL:=step_like N
 have hdep:N.step.dep=N.dep:=by unfold Nd.dep;rw[hL.many,hL.dpt]
 have hcells:∀tb dv,ndCells N.step tb dv=ndCells N tb dv:=fun tb dv=>by unfold ndCells;rw[hL.pfx,hL.dpt,hL.kind]
 have hph:=ho.ph;unfold PhOk at hph;unfold NdAt at h
 cases hp:N.ph with
 |idle=>unfold Nd.left at hl;rw[hp]at hl;simp at hl
 |bld k=>
  rw[hp]at h hph;obtain⟨db,rb,cap,ob,og,bl,h1,h2,h3,rfl,h4⟩:=h;simp only[List.mem_cons,not_or]at hF;have hst:=dual_Step_bld db rb cap ob og bl N.T N.each N.dep k P x w h2 hM hE hF.2 hb0 (fun q hq=>hbF q (by simp[hq]));refine(nd_step_dual h1 hst).mono ?_;rintro e w' ⟨rfl,hM',hm,hif⟩;have hcost:Cost x ((x.add cV 1).add (cU 1) 1) 0 1:=(cost_V x 1).trans (cost_U _ 1)
  have hnb:nb∉P.mb::footB db rb ob og bl:=by simp only[List.mem_cons,not_or];exact⟨fun e=>hF.1 e.symm,h4⟩
  have hblk:=h1.mod hm hnb
  have hmod:Mod (P.mb::nb::footB db rb ob og bl) w w':=hm.more (fun q hq=>by
   rcases List.mem_cons.1 hq with e|e
   ·simp[e]
   ·simp[e])
  by_cases hk:k+1=N.each*N.many
  ·have hP:N.step.ph= .mov (List.replicate N.many (prepT N.each N.each)) 0:=by unfold Nd.step;rw[hp];simp only;rw[if_pos hk]
   have hT:N.step.T=N.T:=by unfold Nd.step;rw[hp]
   rw[if_pos (by rw[h3];exact hk)]at hif;obtain⟨fb,fcap,eb,vb,vcap,hdu,l1,l2,l3⟩:=hif;have hnl:=h1.lt
   have hin:∀q,q∈footM db rb fb eb vb ob og (bl.map fun b=>b.1) (blTabs bl)→q∈footB db rb ob og bl∨w.heap.size≤q:=fun q hq=>by
    unfold footM at hq;rw[List.mem_cons,List.mem_cons,List.mem_cons,List.mem_cons,List.mem_cons,List.mem_cons,List.mem_cons]at hq;rcases hq with e|e|e|e|e|e|e|e
    ·exact .inl (by simp[footB,e])
    ·exact .inl (by simp[footB,e])
    ·exact .inr (by omega)
    ·exact .inr (by omega)
    ·exact .inr (by omega)
    ·exact .inl (by simp[footB,e])
    ·exact .inl (by simp[footB,e])
    ·have:=mem_flat_blocks e;refine .inl ?_;unfold footB;rw[List.mem_cons,List.mem_cons,List.mem_cons,List.mem_cons];exact .inr (.inr (.inr (.inr this)))
   refine⟨rfl,nb::footM db rb fb eb vb ob og (bl.map fun b=>b.1) (blTabs bl),_, ?_,fun q hq=> ?_,hM',hcost,hmod⟩
   ·unfold NdAt;rw[hP,hT,hL.each,hdep];refine⟨db,rb,cap,ob,og,fb,fcap,eb,vb,vcap,bl.map fun b=>b.1,blTabs bl,by rw[hcells];exact hblk,by rw[←h3];exact hdu,by rw[hL.many,←h3];simp[blTabs],rfl,fun hh=> ?_⟩;rcases hin nb hh with e|e
    ·exact h4 e
    ·omega
   ·rcases List.mem_cons.1 hq with e|e
    ·exact .inl (by simp[e])
    ·rcases hin q e with e|e
     ·exact .inl (by simp[e])
     ·exact .inr e
  ·have hP:N.step.ph= .bld (k+1):=by unfold Nd.step;rw[hp];simp only;rw[if_neg hk]
   have hT:N.step.T=N.T:=by unfold Nd.step;rw[hp]
   rw[if_neg (by rw[h3];exact hk)]at hif;refine⟨rfl,nb::footB db rb ob og bl,_, ?_,fun q hq=> .inl hq,hM',hcost,hmod⟩;unfold NdAt;rw[hP,hT,hL.each,hdep];exact⟨db,rb,cap,ob,og,bl,by rw[hcells];exact hblk,hif,by rw[hL.many];exact h3,rfl,h4⟩
 |mov Ts next=>
  rw[hp]at h hph;obtain⟨db,rb,cap,ob,og,fb,fcap,eb,vb,vcap,bbs,bs,h1,h2,h3,rfl,h4⟩:=h
  have hn:next<N.len:=by unfold Nd.left at hl;rw[hp]at hl;simp only at hl;omega
  simp only[List.mem_cons,not_or]at hF;obtain⟨f1,f2,f3,f4,c,f5⟩:=ho.fits hp hn ((x.add (cU 1) 1).add cV 1)
  have hst:=dual_Step_mov db rb cap ob og fb fcap eb vb vcap bbs bs N.T Ts N.each N.dep next P x w h2 ho.tg.ok hn (by rw[h3];exact fits_dep f1) hM hE hF.2 hb0 (fun q hq=>hbF q (by simp[hq]))
  refine(nd_step_dual h1 hst).mono ?_;rintro e w' ⟨rfl,hdu,hM',hm⟩;rw[h3,moveL_dep]at hdu hM';rw[f5]at hM';have hcost:Cost x (((x.add (cU 1) 1).add cV 1).add cV c) 0 1:=((cost_U x 1).trans (cost_V _ 1)).trans (cost_V _ c)
  have hnb:nb∉P.mb::footM db rb fb eb vb ob og bbs bs:=by simp only[List.mem_cons,not_or];exact⟨fun e=>hF.1 e.symm,h4⟩
  have hP:N.step.ph= .mov (moveL N.many N.dpt (mtr0,Ts) (entsG (N.T.gs.getD next []))).2 (next+1):=by unfold Nd.step;rw[hp]
  have hT:N.step.T=takeN N.T next 8:=by unfold Nd.step;rw[hp]
  refine⟨rfl,nb::footM db rb fb eb vb ob og bbs bs,_, ?_,fun q hq=> .inl hq,hM',hcost,hm.more (fun q hq=>by
   rcases List.mem_cons.1 hq with e|e
   ·simp[e]
   ·simp[e])⟩
  unfold NdAt;rw[hP,hT,hL.each,hdep,moveL_any _ _ mtr0 ((x.add (cU 1) 1).add cV 1)];exact⟨db,rb,cap,ob,og,fb,fcap,eb,vb,vcap,bbs,bs,by rw[hcells];exact h1.mod hm hnb,hdu,by rw[hL.many];exact h3,rfl,h4⟩
end
end
section
variable {w : World} {jb qb rb sb : Nat} {b k : Int} {val : Nat → Value} {ids : List Nat}
def intAt (w:World)(p:Addr):Nat:=match w.cell? p with|some (.int _ n)=>n.toNat|_=>0
def schMeas (sb qb:Nat)(w:World):Nat:=intAt w ⟨sb,5,none⟩+intAt w ⟨qb,2,none⟩
theorem SchAt.head {id:Nat}(h:SchAt w sb qb rb jb k b val (id::ids)):Calls Tryz.prog 259 #[.pointer (some ⟨qb,0,none⟩)] w fun e w'=>e= .returned (.tuple #[.int .i64 (id:Int),.bool true])∧w.drew=w':=by
 obtain⟨ring,first,h2⟩:=h.que
 exact queue_Head qb rb ring first id ids w h2
end
section
variable {c i id j : Nat} {e ids' : List Nat}
def StpN {α:Type}(Stp:α→Nat→α→Prop)(id:Nat):Nat→α→α→Prop
 |0,a,a'=>a=a'
 |n+1,a,a'=>∃b,StpN Stp id n a b∧Stp b id a'
def OwnRun {α:Type}(left:α→Nat→Nat)(Stp:α→Nat→α→Prop)(ids:List Nat)(own n:Nat)(a a':α):Prop:=
 (own∉ids∧a'=a)∨(own∈ids∧∃m,StpN Stp own m a a'∧m≤n∧(m=n∨left a' own=0))
def doneL {α:Type}(left:α→Nat→Nat)(a:α)(ids:List Nat):List Nat:=ids.filter fun id=>left a id==0
def liveL {α:Type}(left:α→Nat→Nat)(a:α)(ids:List Nat):List Nat:=ids.filter fun id=>left a id !=0
section
variable {W0 w0 w w2 : World} {E : Nat → Addr} {P : MP} {α : Type} {jt : Nat → TypeId} {ja : Nat → Addr} {At : World → List Nat → α → Prop} {can : α → Nat → Prop} {left : α → Nat → Nat} {Stp : α → Nat → α → Prop} {s : SP} {F0 F F2 : List Nat} {b b2 : Int} {ids ids2 : List Nat} {a a2 : α} {x x2 : Mtr}
theorem SchSt.again (h:SchSt W0 E P At s w0 F0 w b ids a F x):SchSt W0 E P At s w F w b ids a F x:=⟨h.sch,h.pool,h.met,h.env,h.apart,h.mb0,h.env.size,fun _ hq=> .inl hq,Mod.refl _ _⟩
end
end
end Go.Proofs.YtfbljmcjadfkoaaGreatDoor
