/- A core at rest, told of its entries: what a write leaves; how many groups there are. -/
import Derived.Test.YtfbljmcjadfkoaaGreatDoorCoCS
import Derived.Test.YtfbljmcjadfkoaaGreatDoorCoH
import Derived.Test.YtfbljmcjadfkoaaGreatDoorSqM
import Derived.Test.YtfbljmcjadfkoaaGreatDoorSqT
import Derived.Test.YtfbljmcjadfkoaaGreatDoorSq
import Derived.Test.YtfbljmcjadfkoaaGreatDoorPlD
import Derived.Test.YtfbljmcjadfkoaaGreatDoorCoBQ
import Derived.Test.YtfbljmcjadfkoaaGreatDoorCoEnv
import Derived.Defers
import Derived.Recover
import Derived.MapKept
import Derived.ChangeMaps5
import Derived.WideLaws
import Derived.BigRegion
import Derived.Maps.RangeWalk
namespace Go.Proofs.YtfbljmcjadfkoaaGreatDoor
set_option maxRecDepth 100000
set_option maxHeartbeats 4000000
open Go.RowKit AmC Go.MapKept
open Go.ChangeMaps (setBlock heap_setBlock_same heap_setBlock_other)
open Go.ChangeMaps (setBlock)
section
variable {g gl id k len' lo mx : Nat} {N N1 : Nd} {add del : List Ent} {C : CPl} {F ids' : List Nat} {a' : Pool} {t : Int}
def CoreAt (W0:World)(E:Nat→Addr)(H:Nat→Nat)(K M mb:Nat)(G:List Nat)(w:World)(a:Pool)(ids:List Nat):Prop:=
 ∃(C:CPl) (F:List Nat) (len:Nat) (b:Int) (x:Mtr),C.mb=mb∧C.K=K∧C.M=M∧G=C.foot F∧CoreF W0 E H C w (C.foot F) w F ⟨a,ids,len,b,x⟩∧CInv a ids []∧len=a.ents.length∧len≤M
def CoreTo (W0:World)(E:Nat→Addr)(H:Nat→Nat)(K M mb:Nat)(G:List Nat)(w w':World)(a':Pool)(ids':List Nat):Prop:=
 ∃G',CoreAt W0 E H K M mb G' w' a' ids'∧(∀q∈G',q∈G∨w.heap.size≤q)∧Mod G w w'
def WrS (H:Nat→Nat)(K:Nat)(a:Pool)(ids:List Nat)(del add:List Ent)(a':Pool)(ids':List Nat):Prop:=
 ∃(id:Nat) (N N1:Nd),a.Ns[id]?=some N∧Wr H del add N N1∧Maint H K {a with Ns:=a.Ns.set id N1} ids id a' ids'∧Chg del add a.ents a'.ents∧a'.ents.Perm ((a.Ns.set id N1).flatMap Nd.ents)
section
variable {W0 : World} {E : Nat → Addr} {H : Nat → Nat} {K M mb : Nat} {G : List Nat} {w w' : World} {a : Pool} {ids : List Nat}
theorem CoreTo.of {A':Adr}{v':Value}{F':List Nat}{b':Int}{x':Mtr}(h1:C.mb=mb)(h2:C.K=K)(h3:C.M=M)(hc:CoreF W0 E H {C with A:=A',v:=v'} w (C.foot F) w' F' ⟨a',ids',len',b',x'⟩)(hi:CInv a' ids' [])(hl:len'=a'.ents.length)(hm:len'≤M):CoreTo W0 E H K M mb (C.foot F) w w' a' ids':=
 ⟨({C with A:=A',v:=v'}:CPl).foot F',⟨{C with A:=A',v:=v'},F',len',b',x',h1,h2,h3,rfl,hc.again,hi,hl,hm⟩,hc.sub,hc.mod⟩
theorem at_Len (h:CoreAt W0 E H K M mb G w a ids):Calls Tryz.prog 63 #[coreP mb] w fun e w'=>e= .returned (.int .i64 (a.ents.length:Int))∧w=w':=by
 obtain⟨C,F,len,b,x,h1,h2,h3,rfl,hC,hi,hl,hm⟩:=h;rw[←h1,←hl];exact core_Len hC
theorem at_Nodes (h:CoreAt W0 E H K M mb G w a ids):Calls Tryz.prog 64 #[coreP mb] w fun e w'=>e= .returned (.int .i64 (a.Ns.length:Int))∧w=w':=by
 obtain⟨C,F,len,b,x,h1,h2,h3,rfl,hC,hi,hl,hm⟩:=h;rw[←h1];exact core_Nodes hC
theorem at_Groups (h:CoreAt W0 E H K M mb G w a ids):Calls Tryz.prog 65 #[coreP mb] w fun e w'=>e= .returned (.int .i64 (a.groups:Int))∧w=w':=by
 obtain⟨C,F,len,b,x,h1,h2,h3,rfl,hC,hi,hl,hm⟩:=h;rw[←h1];exact core_Groups hC
theorem CoreAt.mod {S:List Nat}(h:CoreAt W0 E H K M mb G w a ids)(hm:Mod S w w')(hS:∀q∈S,q∉G∧W0.heap.size≤q):CoreAt W0 E H K M mb G w' a ids:=by
 obtain⟨C,F,len,b,x,h1,h2,h3,rfl,hC,hi,hl,hm'⟩:=h
 have hd:∀q∈S,q≠C.mb∧q∉C.s.blocks∧q∉F∧C.v.ownBlock≠some q:=fun q hq=>by
  have:=(hS q hq).1;rw[mem_foot]at this;simp only[not_or]at this;exact this
 refine⟨C,F,len,b,x,h1,h2,h3,rfl,⟨SchSt.start (hC.sch.sch.mod hm (fun q hq hqS=>(hd q hqS).2.1 hq)) (hC.hp.stab hC.sch.pool hm (fun q hq hqS=>(hd q hqS).2.2.1 hq)) (hC.sch.met.mod hm (fun hq=>(hd _ hq).1 rfl)) (hC.sch.env.mod hm (fun q hq=>(hS q hq).2)) hC.sch.apart hC.sch.mb0,own_far hC.row hm (fun k hk hkS=>(hd k hkS).2.2.2 hk),hC.rap,hC.pos,hC.kk,hC.mm, ?_,fun q hq=> .inl hq,Mod.refl _ _⟩,hi,hl,hm'⟩;have:=hC.sch.env.size;have:=hm.size;omega
theorem CoreAt.below (h:CoreAt W0 E H K M mb G w a ids)(hb:Below w.heap.size w w'):CoreAt W0 E H K M mb G w' a ids:=h.mod (Mod.of_below hb []) (by simp)
theorem CoreAt.facts (h:CoreAt W0 E H K M mb G w a ids):CInv a ids []∧a.d≤5∧a.Ns.length≤32∧1≤a.Ns.length∧a.Ns.length≤2^a.d∧(∀(i:Nat) (N:Nd),a.Ns[i]?=some N→NOk H N)∧a.ents.length≤M∧M≤192∧(1≤K∧K≤64)∧(a.ents.map Ent.key).Nodup∧(∀q∈G,q<w.heap.size∧W0.heap.size≤q)∧Env W0 E w:=by
 obtain⟨C,F,len,b,x,h1,h2,h3,rfl,hC,hi,hl,hm⟩:=h;obtain⟨b1,b2,b3,b4⟩:=hC.bounds;have h4:=hC.mm;have h5:=hC.kk;exact⟨hi,b1,b2,hC.pos,hi.dir.nodes,b4,by omega,by omega,by omega,pool_nodup hi.dir b1 b4,fun q hq=>⟨hC.lts q hq,hC.lows q hq⟩,hC.sch.env⟩
theorem new_at {H:Nat→Nat}(h:NewAt W0 E H K M w mb w'):CoreTo W0 E H K M mb [] w w' pool0 []:=by
 obtain⟨C,F,h1,h2,h3,hC⟩:=h;exact⟨_,⟨C,F,0,0,mtr0,h1,h2,h3,rfl,hC.again,inv0,by rw[ents0];rfl,Nat.zero_le _⟩,hC.sub,hC.mod⟩
end
def GB (mx:Nat)(a:Pool):Prop:=∀(i:Nat) (N:Nd),a.Ns[i]?=some N→N.len≤mx∧N.each≤mx∧N.groups≤2*mx
theorem GB.more {mx':Nat}{a:Pool}(h:GB mx a)(hm:mx≤mx'):GB mx' a:=fun i N hN=>by
 have:=h i N hN;omega
end
section
variable {es l : List Ent} {e : Ent} {key : Nat}
def highs (a:Pool):List Nat:=a.Ns.map fun N=>highOf N.pfx N.dpt
theorem less_hash {hash:Nat}(h:lessE e ⟨key,0,hash⟩=false):hash≤e.hash:=by
 simp[lessE]at h;omega
def upto (es:List Ent)(hi:Nat):List Ent:=es.filter fun e=>decide (e.hash≤hi)
theorem mem_upto {hi:Nat}:e∈upto es hi↔e∈es∧e.hash≤hi:=by unfold upto;simp
def rest (es:List Ent)(key:Nat):List Ent:=es.filter fun x=>x.key !=key
def fullB (M:Nat)(es:List Ent)(key:Nat):Bool:=(look es key).isNone && decide (M≤es.length)
def putC (M:Nat)(es:List Ent)(key:Nat):Nat:=if fullB M es key then 2 else 0
def putL (M:Nat)(es:List Ent)(e:Ent):List Ent:=if fullB M es e.key then es else rest es e.key++[e]
def getV (es:List Ent)(key:Nat):Value:= .tuple #[.int .u64 (((look es key).getD ⟨0,0,0⟩).val:Int),.bool (look es key).isSome]
section
variable {W0 : World} {E : Nat → Addr} {H : Nat → Nat} {K M mb : Nat} {G : List Nat} {w w' : World} {a : Pool} {ids : List Nat}
end
end
section
section
variable {w : World} {b o : Nat} {t : TypeId} {cs : Array Value}
theorem led_Balance {n:Int}(h:Blk w b t cs)(hn:cs[o]?=some (.int .i64 n)):Calls Tryz.prog 105 #[.pointer (some ⟨b,o,none⟩)] w fun e w'=>e= .returned (.int .i64 n)∧w=w':=by
 have c0:=(h.cell o).trans hn;clear h hn;go_in;go_wp2;go_ret;exact⟨rfl,rfl⟩
end
structure RmC where
 k:Int
 m:Int
 i:Int
 cb:Nat
 lf:Nat
 gn:Nat
 ma:Cnt
 ml:Cnt
 ib:Nat
 last:Cnt
 all:Cnt
def RmC.cells (c:RmC):Array Value:= #[.int .i64 c.k,.int .i64 c.m,.int .i64 c.i,.pointer (some ⟨c.cb,0,none⟩),.int .i64 (c.lf:Int),.float .f64 0,.int .i64 (c.gn:Int),.float .f64 0,.int .i64 c.ma.p,.int .i64 c.ma.v,.int .i64 c.ma.u,.int .i64 c.ml.p,.int .i64 c.ml.v,.int .i64 c.ml.u,.bool false,.int .i64 0,.pointer (some ⟨c.ib,0,none⟩),.int .i64 c.last.p,.int .i64 c.last.v,.int .i64 c.last.u,.int .i64 c.all.p,.int .i64 c.all.v,.int .i64 c.all.u]
structure RmB (w:World)(b:Nat)(c:RmC):Prop where
 blk:Blk w b 114 c.cells
 lf:c.lf≤1099511627776
 gn:c.gn≤1099511627776
def rmPre (c:RmC):List Value:=[.int .i64 c.k,.int .i64 c.m,.int .i64 c.i,.pointer (some ⟨c.cb,0,none⟩),.int .i64 (c.lf:Int),.float .f64 0,.int .i64 (c.gn:Int),.float .f64 0]
def rmPost (c:RmC):List Value:=[.pointer (some ⟨c.ib,0,none⟩),.int .i64 c.last.p,.int .i64 c.last.v,.int .i64 c.last.u,.int .i64 c.all.p,.int .i64 c.all.v,.int .i64 c.all.u]
theorem RmB.lt {w:World}{b:Nat}{c:RmC}(h:RmB w b c):b<w.heap.size:=h.blk.lt
theorem RmB.mod {S:List Nat}{w w':World}{b:Nat}{c:RmC}(h:RmB w b c)(hm:Mod S w w')(hb:b∉S):RmB w' b c:=⟨h.blk.mod hm hb,h.lf,h.gn⟩
instance {w w':World}{b:Nat}{c:RmC}:Md (RmB w b c) w w' (RmB w' b c) (fun S=>b∉S):=⟨fun h hm hs=>RmB.mod h hm hs⟩
def Washed (w:World)(b:Nat)(c:RmC)(w':World):Prop:=∃(lf gn:Nat) (ma ml:Cnt),lf≤c.lf∧RmB w' b {c with lf:=lf,gn:=gn,ma:=ma,ml:=ml}∧Mod [b] w w'
section
variable {w : World} {b : Nat} {c : RmC}
theorem wash_Left (h:RmB w b c):Calls Tryz.prog 66 #[.pointer (some ⟨b,4,none⟩)] w fun e w'=>e= .returned (.int .i64 (c.lf:Int))∧w=w':=by
 have HL:=qd (led_Balance (o:=4) (n:=(c.lf:Int)) h.blk rfl);clear h;go_in;go_wp2_with fail;refine HL.out.mono ?_;rintro y w1 ⟨rfl,rfl⟩;go_wp2;go_ret;exact⟨rfl,rfl⟩
theorem Washed.next {w1 w2:World}(h:Washed w b c w1)(hn:∀c',RmB w1 b c'→Washed w1 b c' w2):Washed w b c w2:=by
 obtain⟨lf,gn,ma,ml,h1,h2,h3⟩:=h;obtain⟨lf',gn',ma',ml',k1,k2,k3⟩:=hn _ h2;exact⟨lf',gn',ma',ml',Nat.le_trans k1 h1,k2,h3.then k3⟩
end
section
variable {w : World} {b : Nat} {c : RmC}
def Wrote (w:World)(b:Nat)(c:RmC)(w':World):Prop:=∃(lf gn:Nat) (ma ml last all:Cnt),lf≤c.lf∧RmB w' b {c with lf:=lf,gn:=gn,ma:=ma,ml:=ml,last:=last,all:=all}∧Mod [b] w w'
end
end
section
def CoreAtC (W0:World)(E:Nat→Addr)(H:Nat→Nat)(K M mb:Nat)(G:List Nat)(w:World)(a:Pool)(ids:List Nat)(c:Cnt):Prop:=
 ∃(C:CPl) (F:List Nat) (len:Nat) (b:Int) (x:Mtr),C.mb=mb∧C.K=K∧C.M=M∧G=C.foot F∧CoreF W0 E H C w (C.foot F) w F ⟨a,ids,len,b,x⟩∧CInv a ids []∧len=a.ents.length∧len≤M∧x.last=c
def LeC (c:Cnt):Prop:=0≤c.p∧c.p≤192∧c.u=0
section
variable {W0 : World} {E : Nat → Addr} {H : Nat → Nat} {K M mb : Nat} {G : List Nat} {w w' : World} {a : Pool} {ids : List Nat} {c : Cnt}
theorem CoreAtC.at_ (h:CoreAtC W0 E H K M mb G w a ids c):CoreAt W0 E H K M mb G w a ids:=by
 obtain⟨C,F,len,b,x,h1,h2,h3,h4,h5,h6,h7,h8,_⟩:=h;exact⟨C,F,len,b,x,h1,h2,h3,h4,h5,h6,h7,h8⟩
theorem CoreAtC.mod {S:List Nat}(h:CoreAtC W0 E H K M mb G w a ids c)(hm:Mod S w w')(hS:∀q∈S,q∉G∧W0.heap.size≤q):CoreAtC W0 E H K M mb G w' a ids c:=by
 obtain⟨C,F,len,b,x,h1,h2,h3,rfl,hC,hi,hl,hm',hx⟩:=h
 have hd:∀q∈S,q≠C.mb∧q∉C.s.blocks∧q∉F∧C.v.ownBlock≠some q:=fun q hq=>by
  have:=(hS q hq).1;rw[mem_foot]at this;simp only[not_or]at this;exact this
 refine⟨C,F,len,b,x,h1,h2,h3,rfl,⟨SchSt.start (hC.sch.sch.mod hm (fun q hq hqS=>(hd q hqS).2.1 hq)) (hC.hp.stab hC.sch.pool hm (fun q hq hqS=>(hd q hqS).2.2.1 hq)) (hC.sch.met.mod hm (fun hq=>(hd _ hq).1 rfl)) (hC.sch.env.mod hm (fun q hq=>(hS q hq).2)) hC.sch.apart hC.sch.mb0,own_far hC.row hm (fun k hk hkS=>(hd k hkS).2.2.2 hk),hC.rap,hC.pos,hC.kk,hC.mm, ?_,fun q hq=> .inl hq,Mod.refl _ _⟩,hi,hl,hm',hx⟩;have:=hC.sch.env.size;have:=hm.size;omega
theorem CoreAtC.below (h:CoreAtC W0 E H K M mb G w a ids c)(hb:Below w.heap.size w w'):CoreAtC W0 E H K M mb G w' a ids c:=h.mod (Mod.of_below hb []) (by simp)
def PutR (H:Nat→Nat)(K M:Nat)(a:Pool)(ids:List Nat)(e:Ent)(a':Pool)(ids':List Nat):Prop:=a'.ents.Perm (putL M a.ents e)∧(look a.ents e.key=none→a.ents.length<M→WrS H K a ids [] [e] a' ids')
end
end
section
structure Cur where
 hash:Nat
 key:Nat
 done:Bool
def behind (hash key:Nat):Cur:=if key<18446744073709551615 then⟨hash,key+1,false⟩else if hash<18446744073709551615 then⟨hash+1,0,false⟩else⟨0,0,true⟩
def Cur.ok (c:Cur):Prop:=c.hash<18446744073709551616∧c.key<18446744073709551616
def Cur.cells (c:Cur):Array Value:= #[.int .u64 (c.key:Int),.int .u64 0,.int .u64 (c.hash:Int),.bool c.done]
def CurAt (w:World)(b:Nat)(c:Cur):Prop:=Blk w b 264 c.cells
theorem CurAt.blk {w:World}{b:Nat}{c:Cur}(h:CurAt w b c):Blk w b 264 #[.int .u64 (c.key:Int),.int .u64 0,.int .u64 (c.hash:Int),.bool c.done]:=h
theorem CurAt.lt {w:World}{b:Nat}{c:Cur}(h:CurAt w b c):b<w.heap.size:=Blk.lt h
theorem CurAt.mod {S:List Nat}{w w':World}{b:Nat}{c:Cur}(h:CurAt w b c)(hm:Mod S w w')(hb:b∉S):CurAt w' b c:=Blk.mod h hm hb
instance {w w':World}{b:Nat}{c:Cur}:Md (CurAt w b c) w w' (CurAt w' b c) (fun S=>b∉S):=⟨fun h hm hs=>CurAt.mod h hm hs⟩
section
variable {w : World} {b : Nat} {c : Cur}
end
end
section
def mEnt (p:Nat×Nat):MapEntry:=⟨.int .i64 (p.1:Int),.pointer (some ⟨p.2,0,none⟩),p.1-1⟩
def MapL (w:World)(b g:Nat)(l:List (Nat×Nat)):Prop:=w.heap[b]?=some (.map (l.map mEnt).toArray g)
def findL (l:List (Nat×Nat))(x:Int):Option Nat:=(l.find? fun p=>decide ((p.1:Int)=x)).map Prod.snd
def ptrO (o:Option Nat):Value:= .pointer (o.map fun b=>⟨b,0,none⟩)
section
variable {P : Program} {w w' : World} {b g : Nat} {l : List (Nat × Nat)} {t k e : TypeId}
theorem MapL.lt (h:MapL w b g l):b<w.heap.size:=(Array.getElem?_eq_some_iff.1 h).1
theorem MapL.mod {S:List Nat}(h:MapL w b g l)(hm:Mod S w w')(hb:b∉S):MapL w' b g l:=(hm.block b h.lt hb).trans h
instance {w w':World}{b g:Nat}{l:List (Nat×Nat)}:Md (MapL w b g l) w w' (MapL w' b g l) (fun S=>b∉S):=⟨fun h hm hs=>MapL.mod h hm hs⟩
theorem MapL.new (w:World):MapL (w.alloc (.map #[] 0)) w.heap.size 0 []:=by
 exact heap_alloc_new w _
theorem find_now (x:Int):∀(l:List (Nat×Nat)) (i:Nat),∃a,Instr.findNow (.int .i64) (.int .i64 x) (l.map mEnt) i=some a∧a.map Prod.snd=(findL l x).map (fun b=>Value.pointer (some ⟨b,0,none⟩))∧∀p,a=some p→∃j,p.1=i+j∧(l.map Prod.fst)[j]?.map (fun n:Nat=>(n:Int))=some x
 | [],_=>⟨none,rfl,rfl,fun _ h=>by cases h⟩
 |p::l,i=>by
  by_cases hp:(p.1:Int)=x
  ·refine⟨some (i,.pointer (some ⟨p.2,0,none⟩)), ?_, ?_,fun q hq=> ?_⟩
   ·subst hp;simp[Instr.findNow,Instr.sameNow,mEnt]
   ·unfold findL;rw[List.find?_cons_of_pos (by simpa using hp)];rfl
   ·cases hq;exact⟨0,rfl,by simp[hp]⟩
  ·obtain⟨a,h1,h2,h3⟩:=find_now x l (i+1);refine⟨a, ?_, ?_,fun q hq=> ?_⟩
   ·have:((x==(p.1:Int))=false):=by simpa using fun h=>hp h.symm
    simp[Instr.findNow,Instr.sameNow,mEnt,this]at h1⊢;exact h1
   ·unfold findL at h2⊢;rw[List.find?_cons_of_neg (by simpa using hp)];exact h2
   ·obtain⟨j,h4,h5⟩:=h3 q hq;exact⟨j+1,by omega,by simpa using h5⟩
theorem key_int {x:Int}:IsKey (.int .i64) (.int .i64 x):=by simp[IsKey]
theorem MapL.look (h:MapL w b g l)(ht:P.underlying t=some (.map k e))(hk:P.underlying k=some (.int .i64))(hz:(zeroValue e).run P w= .ok (.pointer none) w)(x:Int):
  (Instr.lookup t (.map (some b)) (.int .i64 x) true).run P w= .ok (.tuple #[ptrO (findL l x),.bool (findL l x).isSome]) w:=by
 obtain⟨a,h1,h2,_⟩:=find_now x l 0;have h3:=run_findKey (P:=P) (w:=w) hk h1
 cases hf:findL l x with
 |none=>
  rw[hf]at h2
  obtain rfl:a=none:=by cases a with|none=>rfl|some q=>simp at h2
  simp[Instr.lookup,run_underlying ht,Go.MapKept.run_getObj_map (show w.heap[b]?=some (.map (l.map mEnt).toArray g)from h),run_checkKey hk key_int,h3,hz,Result.andThen,ptrO]
 |some c=>
  rw[hf]at h2
  cases a with
  |none=>simp at h2
  |some q=>
   obtain⟨i,v⟩:=q;simp at h2;subst h2;simp[Instr.lookup,run_underlying ht,Go.MapKept.run_getObj_map (show w.heap[b]?=some (.map (l.map mEnt).toArray g)from h),run_checkKey hk key_int,h3,Result.andThen,ptrO]
theorem findL_none {x:Int}:findL l x=none↔∀p∈l,(p.1:Int)≠x:=by
 unfold findL;rw[Option.map_eq_none_iff,List.find?_eq_none];simp
theorem MapL.mod_ (h:MapL w b g l)(o:Obj):Mod [b] w (setBlock w b o):=⟨rfl,rfl,rfl,by simp[setBlock],fun k _ hn=>heap_setBlock_other h o (by simpa using hn)⟩
theorem MapL.put (h:MapL w b g l)(ht:P.underlying t=some (.map k e))(hk:P.underlying k=some (.int .i64))(hf:findL l ((g+1:Nat):Int)=none)(c:Nat):
  (Instr.mapUpdate t (.map (some b)) (.int .i64 ((g+1:Nat):Int)) (.pointer (some ⟨c,0,none⟩))).run P w= .ok () (setBlock w b (.map ((l++[(g+1,c)]).map mEnt).toArray (g+1))):=by
 obtain⟨a,h1,h2,_⟩:=find_now ((g+1:Nat):Int) l 0;have h3:=run_findKey (P:=P) (w:=w) hk h1;rw[hf]at h2
 obtain rfl:a=none:=by cases a with|none=>rfl|some q=>simp at h2
 rw[show((g+1:Nat):Int)=(g:Int)+1 from by omega]at h3;simp[Instr.mapUpdate,run_underlying ht,Go.MapKept.run_getObj_map (show w.heap[b]?=some (.map (l.map mEnt).toArray g)from h),run_checkKey hk key_int,h3,Go.MapKept.run_setObj_map _ (show w.heap[b]?=some (.map (l.map mEnt).toArray g)from h),Result.andThen,setBlock,mEnt]
theorem MapL.set_ (h:MapL w b g l)(l':List (Nat×Nat))(g':Nat):MapL (setBlock w b (.map (l'.map mEnt).toArray g')) b g' l':=heap_setBlock_same h _
end
end
section
variable {cb id : Nat} {c : Cur}
structure It where
 id:Nat
 cb:Nat
 c:Cur
def itFoot (ib mb:Nat)(its:List It):List Nat:=ib::mb::its.map It.cb
def itMap (its:List It):List (Nat×Nat):=its.map fun i=>(i.id,i.cb)
structure ItAt (w:World)(ib mb most given:Nat)(its:List It):Prop where
 blk:Blk w ib 157 #[.int .i64 (most:Int),.int .i64 (given:Int),.map (some mb)]
 map:MapL w mb given (itMap its)
 cur:∀i∈its,CurAt w i.cb i.c
 ids:∀i∈its,1≤i.id∧i.id≤given
 nd:(its.map It.id).Nodup
 nf:(itFoot ib mb its).Nodup
 few:most≤8∧its.length≤most
section
variable {w w' : World} {ib mb most given : Nat} {its : List It}
theorem ItAt.lts (h:ItAt w ib mb most given its):∀q∈itFoot ib mb its,q<w.heap.size:=by
 intro q hq;unfold itFoot at hq;rcases List.mem_cons.1 hq with rfl|hq
 ·exact h.blk.lt
 ·rcases List.mem_cons.1 hq with rfl|hq
  ·exact h.map.lt
  ·obtain⟨i,hi,rfl⟩:=List.mem_map.1 hq;exact(h.cur i hi).lt
theorem ItAt.mod {S:List Nat}(h:ItAt w ib mb most given its)(hm:Mod S w w')(hS:∀q∈itFoot ib mb its,q∉S):ItAt w' ib mb most given its:=
 ⟨h.blk.mod hm (hS _ (by simp[itFoot])),h.map.mod hm (hS _ (by simp[itFoot])),fun i hi=>(h.cur i hi).mod hm (hS _ (by simp only[itFoot,List.mem_cons];exact .inr (.inr (List.mem_map_of_mem hi)))),h.ids,h.nd,h.nf,h.few⟩
instance {w w':World}{ib mb most given:Nat}{its:List It}:Md (ItAt w ib mb most given its) w w' (ItAt w' ib mb most given its) (fun S=>∀q∈itFoot ib mb its,q∉S):=⟨fun h hm hs=>ItAt.mod h hm hs⟩
theorem ItAt.below (h:ItAt w ib mb most given its)(hb:Below w.heap.size w w'):ItAt w' ib mb most given its:=h.mod (Mod.of_below hb []) (by simp)
end
theorem iters_New (n:Nat)(hn:1≤n∧n≤8)(w:World):Calls Tryz.prog 54 #[.int .i64 (n:Int)] w fun y w'=>y= .returned (.tuple #[.pointer (some ⟨(w.heap.size+1),0,none⟩),.nilIface])∧ItAt w' (w.heap.size+1) w.heap.size n 0 []∧Below w.heap.size w w':=by
 have h1:¬(n:Int)<1:=by omega
 have h2:¬(n:Int)>8:=by omega
 have hm:∀W:World,(Instr.makeMap 155 none).run Tryz.prog W= .ok (.map (some W.heap.size)) (W.alloc (.map #[] 0)):=fun _=>rfl;have HN:=qd hn;clear hn;go_in;go_wp2;refine bodyPost_ret (v:= .tuple #[.pointer (some ⟨(w.heap.size+1),0,none⟩),.nilIface]) (by simp[results,Tryz.results54,go_sem]) rfl ⟨rfl, ?_, ?_⟩
 ·exact⟨by simpa using Blk.new (w.alloc (.map #[] 0)) 157 #[.int .i64 (n:Int),.int .i64 0,.map (some w.heap.size)],(MapL.new w).mod (Mod.of_below ((Below.refl _ _).alloc (Nat.le_refl _) _) []) (by simp),by simp,by simp,by simp,by simp[itFoot],by have:=HN.out;simp;omega⟩
 ·exact((Below.refl _ _).alloc (Nat.le_refl _) _).alloc (by simp) _
section
variable {w : World} {ib mb most given : Nat} {its : List It}
theorem nodup_map_eq {its:List It}(hn:(its.map It.id).Nodup){i j:It}(hi:i∈its)(hj:j∈its)(h:i.id=j.id):i=j:=by
 induction its with
 |nil=>cases hi
 |cons x l ih=>
  rw[List.map_cons,List.nodup_cons]at hn;rcases List.mem_cons.1 hi with h1|h1
  ·rcases List.mem_cons.1 hj with h2|h2
   ·rw[h1,h2]
   ·exact absurd (show x.id∈l.map It.id from by rw[←h1,h];exact List.mem_map_of_mem h2) hn.1
  ·rcases List.mem_cons.1 hj with h2|h2
   ·exact absurd (show x.id∈l.map It.id from by rw[←h2,←h];exact List.mem_map_of_mem h1) hn.1
   ·exact ih hn.2 h1 h2
end
end
section
variable {GC' S : List Nat} {Kk ph pk pm pr : Nat} {V : World} {e : Ent}
def rtFoot (b:Nat)(C:RmC)(GC:List Nat)(mb:Nat)(its:List It):List Nat:=b::(itFoot C.ib mb its++GC)
structure RtS (W0:World)(E:Nat→Addr)(H:Nat→Nat)(K M I b:Nat)(G0:List Nat)(w0:World)(C:RmC)(GC:List Nat)(mb gv:Nat)(w:World)(a:Pool)(ids:List Nat)(its:List It):Prop where
 blk:RmB w b C
 cfg:C.k=(K:Int)∧C.m=(M:Int)∧C.i=(I:Int)
 core:CoreAt W0 E H K M C.cb GC w a ids
 itr:ItAt w C.ib mb I gv its
 b0:W0.heap.size≤b∧∀q∈itFoot C.ib mb its,W0.heap.size≤q
 apart:b∉GC∧b∉itFoot C.ib mb its∧∀q∈itFoot C.ib mb its,q∉GC
 sub:∀q∈rtFoot b C GC mb its,q∈G0∨w0.heap.size≤q
 mod:Mod G0 w0 w
 le0:W0.heap.size≤w0.heap.size
theorem mem_rtFoot {b:Nat}{C:RmC}{GC:List Nat}{mb:Nat}{its:List It}{q:Nat}:q∈rtFoot b C GC mb its↔q=b∨q∈itFoot C.ib mb its∨q∈GC:=by unfold rtFoot;simp
section
variable {W0 : World} {E : Nat → Addr} {H : Nat → Nat} {K M I b : Nat} {G0 : List Nat} {w0 : World} {C C' : RmC} {GC : List Nat} {mb gv gv' : Nat} {w w' : World} {a a' : Pool} {ids ids' : List Nat} {its its' : List It}
theorem RtS.lts (h:RtS W0 E H K M I b G0 w0 C GC mb gv w a ids its):∀q∈rtFoot b C GC mb its,q<w.heap.size∧W0.heap.size≤q:=fun q hq=>by
 rcases mem_rtFoot.1 hq with rfl|hq|hq
 ·exact⟨h.blk.lt,h.b0.1⟩
 ·exact⟨h.itr.lts q hq,h.b0.2 q hq⟩
 ·exact h.core.facts.2.2.2.2.2.2.2.2.2.2.1 q hq
theorem RtS.kk (h:RtS W0 E H K M I b G0 w0 C GC mb gv w a ids its):1≤C.k∧C.k≤64:=by
 have:=h.core.facts.2.2.2.2.2.2.2.2.1;rw[h.cfg.1];omega
theorem RtS.mod_ (h:RtS W0 E H K M I b G0 w0 C GC mb gv w a ids its)(hm:Mod S w w')(hS:∀q∈S,q∉rtFoot b C GC mb its∧w0.heap.size≤q):RtS W0 E H K M I b G0 w0 C GC mb gv w' a ids its:=by
 have h1:∀q∈rtFoot b C GC mb its,q∉S:=fun q hq hs=>(hS q hs).1 hq;exact⟨h.blk.mod hm (h1 b (mem_rtFoot.2 (.inl rfl))),h.cfg,h.core.mod hm (fun q hq=>⟨fun hg=>(hS q hq).1 (mem_rtFoot.2 (.inr (.inr hg))),Nat.le_trans h.le0 (hS q hq).2⟩),h.itr.mod hm (fun q hq=>h1 q (mem_rtFoot.2 (.inr (.inl hq)))),h.b0,h.apart,h.sub,h.mod.trans hm (fun _ hk _=>hk) (fun k hk hl=>absurd (hS k hk).2 (by omega)),h.le0⟩
theorem RtS.below (h:RtS W0 E H K M I b G0 w0 C GC mb gv w a ids its)(hb:Below w.heap.size w w'):RtS W0 E H K M I b G0 w0 C GC mb gv w' a ids its:=h.mod_ (Mod.of_below hb []) (by simp)
theorem Mod.within (h:Mod G0 w0 w)(hm:Mod S w w')(hs:∀q∈S,q∈G0∨w0.heap.size≤q):Mod G0 w0 w':=h.trans hm (fun _ hk _=>hk) fun k hk hl=>(hs k hk).elim id fun h1=>absurd h1 (by omega)
theorem RtS.setI (h:RtS W0 E H K M I b G0 w0 C GC mb gv w a ids its)(hi:ItAt w' C.ib mb I gv' its')(hm:Mod S w w')(hS:∀q∈S,q∈itFoot C.ib mb its∨(q∉rtFoot b C GC mb its∧w0.heap.size≤q))(hn:∀q∈itFoot C.ib mb its',q∈itFoot C.ib mb its∨w.heap.size≤q):RtS W0 E H K M I b G0 w0 C GC mb gv' w' a ids its':=by
 have hbl:=h.blk.lt;have hcl:=h.core.facts.2.2.2.2.2.2.2.2.2.2.1;have hen:=h.core.facts.2.2.2.2.2.2.2.2.2.2.2.size;refine⟨h.blk.mod hm (fun hs=> ?_),h.cfg,h.core.mod hm (fun q hq=> ?_),hi,⟨h.b0.1,fun q hq=> ?_⟩,⟨h.apart.1,fun hq=> ?_,fun q hq hg=> ?_⟩,fun q hq=> ?_,h.mod.within hm (fun q hq=> ?_),h.le0⟩
 ·rcases hS b hs with k|k
  ·exact h.apart.2.1 k
  ·exact k.1 (mem_rtFoot.2 (.inl rfl))
 ·rcases hS q hq with k|k
  ·exact⟨h.apart.2.2 q k,h.b0.2 q k⟩
  ·exact⟨fun hg=>k.1 (mem_rtFoot.2 (.inr (.inr hg))),Nat.le_trans h.le0 k.2⟩
 ·rcases hn q hq with k|k
  ·exact h.b0.2 q k
  ·omega
 ·rcases hn b hq with k|k
  ·exact h.apart.2.1 k
  ·omega
 ·rcases hn q hq with k|k
  ·exact h.apart.2.2 q k hg
  ·have:=(hcl q hg).1;omega
 ·rcases mem_rtFoot.1 hq with k|k|k
  ·exact h.sub q (mem_rtFoot.2 (.inl k))
  ·rcases hn q k with k|k
   ·exact h.sub q (mem_rtFoot.2 (.inr (.inl k)))
   ·have:=h.mod.size;exact .inr (by omega)
  ·exact h.sub q (mem_rtFoot.2 (.inr (.inr k)))
 ·rcases hS q hq with k|k
  ·exact h.sub q (mem_rtFoot.2 (.inr (.inl k)))
  ·exact .inr k.2
theorem RtS.again (h:RtS W0 E H K M I b G0 w0 C GC mb gv w a ids its):RtS W0 E H K M I b (rtFoot b C GC mb its) w C GC mb gv w a ids its:=⟨h.blk,h.cfg,h.core,h.itr,h.b0,h.apart,fun q hq=> .inl hq,Mod.refl _ _,by have:=h.core.facts.2.2.2.2.2.2.2.2.2.2.2.size;exact this⟩
end
def RtAt (W0:World)(E:Nat→Addr)(H:Nat→Nat)(K M I b:Nat)(G:List Nat)(w:World)(a:Pool)(ids:List Nat)(its:List It)(gv:Nat)(lst:Cnt):Prop:=
 ∃(C:RmC) (GC:List Nat) (mb:Nat),RtS W0 E H K M I b (rtFoot b C GC mb its) w C GC mb gv w a ids its∧G=rtFoot b C GC mb its∧C.last=lst
def RtTo (W0:World)(E:Nat→Addr)(H:Nat→Nat)(K M I b:Nat)(G:List Nat)(w w':World)(a':Pool)(ids':List Nat)(its':List It)(gv':Nat)(lst':Cnt):Prop:=
 ∃G',RtAt W0 E H K M I b G' w' a' ids' its' gv' lst'∧(∀q∈G',q∈G∨w.heap.size≤q)∧Mod G w w'
section
variable {W0 : World} {E : Nat → Addr} {H : Nat → Nat} {K M I b : Nat} {G G0 : List Nat} {w0 w w' : World} {C : RmC} {GC : List Nat} {mb gv gv' : Nat} {a a' : Pool} {ids ids' : List Nat} {its its' : List It} {lst lst' : Cnt}
theorem RtS.to (h:RtS W0 E H K M I b G w C GC mb gv w' a' ids' its'):RtTo W0 E H K M I b G w w' a' ids' its' gv C.last:=⟨_,⟨C,GC,mb,h.again,rfl,rfl⟩,h.sub,h.mod⟩
theorem RtAt.mod (h:RtAt W0 E H K M I b G w a ids its gv lst)(hm:Mod S w w')(hS:∀q∈S,q∉G∧W0.heap.size≤q):RtAt W0 E H K M I b G w' a ids its gv lst:=by
 obtain⟨C,GC,mb,h1,rfl,h2⟩:=h;have k1:∀q∈rtFoot b C GC mb its,q∉S:=fun q hq hs=>(hS q hs).1 hq;have h3:RtS W0 E H K M I b (rtFoot b C GC mb its) w' C GC mb gv w' a ids its:=⟨h1.blk.mod hm (k1 b (mem_rtFoot.2 (.inl rfl))),h1.cfg,h1.core.mod hm (fun q hq=>⟨fun hg=>(hS q hq).1 (mem_rtFoot.2 (.inr (.inr hg))),(hS q hq).2⟩),h1.itr.mod hm (fun q hq=>k1 q (mem_rtFoot.2 (.inr (.inl hq)))),h1.b0,h1.apart,fun q hq=> .inl hq,Mod.refl _ _,by have:=h1.le0;have:=hm.size;omega⟩;exact⟨C,GC,mb,h3,rfl,h2⟩
theorem RtAt.below (h:RtAt W0 E H K M I b G w a ids its gv lst)(hb:Below w.heap.size w w'):RtAt W0 E H K M I b G w' a ids its gv lst:=h.mod (Mod.of_below hb []) (by simp)
theorem RtAt.facts (h:RtAt W0 E H K M I b G w a ids its gv lst):(∀q∈G,q<w.heap.size∧W0.heap.size≤q)∧(a.ents.map Ent.key).Nodup∧a.ents.length≤M∧M≤192∧a.Ns.length≤32∧1≤a.Ns.length∧(its.map It.id).Nodup∧its.length≤I∧I≤8∧Env W0 E w:=by
 obtain⟨C,GC,mb,h1,rfl,h2⟩:=h;obtain⟨_,_,f3,f4,_,_,f7,f8,_,f10,_,f12⟩:=h1.core.facts;exact⟨h1.lts,f10,f7,f8,f3,f4,h1.itr.nd,h1.itr.few.2,h1.itr.few.1,f12⟩
theorem RtTo.next (h:RtTo W0 E H K M I b G w w' a' ids' its' gv' lst'){w2:World}(hb:Below w'.heap.size w' w2):RtTo W0 E H K M I b G w w2 a' ids' its' gv' lst':=by
 obtain⟨G',h1,h2,h3⟩:=h;exact⟨G',h1.below hb,h2,h3.then (Mod.of_below hb _)⟩
theorem rt_Len (h:RtAt W0 E H K M I b G w a ids its gv lst):Calls Tryz.prog 33 #[.pointer (some ⟨b,0,none⟩)] w fun y w'=>y= .returned (.int .i64 (a.ents.length:Int))∧w=w':=by
 obtain⟨C,GC,mb,hS,rfl,hlst⟩:=h;have hbk:=hS.blk.blk;unfold RmC.cells at hbk;have c3:=hbk.cell 3;simp only[gl]at c3;have HL:=qd (at_Len hS.core);unfold coreP at HL;clear hbk hS hlst;go_in;go_wp2_with fail;refine HL.out.mono ?_;rintro y w1 ⟨rfl,rfl⟩;go_wp2;go_ret;exact⟨rfl,rfl⟩
theorem rt_Nodes (h:RtAt W0 E H K M I b G w a ids its gv lst):Calls Tryz.prog 34 #[.pointer (some ⟨b,0,none⟩)] w fun y w'=>y= .returned (.int .i64 (a.Ns.length:Int))∧w=w':=by
 obtain⟨C,GC,mb,hS,rfl,hlst⟩:=h;have hbk:=hS.blk.blk;unfold RmC.cells at hbk;have c3:=hbk.cell 3;simp only[gl]at c3;have HL:=qd (at_Nodes hS.core);unfold coreP at HL;clear hbk hS hlst;go_in;go_wp2_with fail;refine HL.out.mono ?_;rintro y w1 ⟨rfl,rfl⟩;go_wp2;go_ret;exact⟨rfl,rfl⟩
end
def CloP (W0:World)(E:Nat→Addr)(H:Nat→Nat)(K M I b:Nat)(G0:List Nat)(w0:World)(C:RmC)(GC:List Nat)(mb gv:Nat)(its:List It)(R:Pool→List Nat→Prop)(pr:Nat)(t:TypeId)(v:Value)(V w':World):Prop:=
 ∃GC' a' ids',RtS W0 E H K M I b G0 w0 C GC' mb gv w' a' ids' its∧R a' ids'∧Blk w' pr t #[v]∧(∀q∈GC',q∈GC∨V.heap.size≤q)∧Mod (pr::GC) V w'
end
section
section
variable {W0 : World} {E : Nat → Addr} {H : Nat → Nat} {Kk M I b : Nat} {G0 : List Nat} {w0 w w' : World} {C : RmC} {GC : List Nat} {mb gv : Nat} {a : Pool} {ids : List Nat} {its : List It}
end
end
section
variable {W0 w : World} {E : Nat → Addr}
theorem rt_New (H:Nat→Nat)(hE:Env W0 E w)(k m i:Int)(hcf:cfgOk k m i=true)(K M I:Nat)(hkm:(1≤K∧K≤64)∧(1≤M∧M≤192)∧k=(K:Int)∧m=(M:Int)∧i=(I:Int))(hi8:1≤I∧I≤8):Calls Tryz.prog 28 #[cfgV k m i] w fun y w'=>∃b G,y= .returned (.tuple #[.pointer (some ⟨b,0,none⟩),.nilIface])∧RtAt W0 E H K M I b G w' pool0 [] [] 0 ⟨0,0,0⟩∧(∀q∈G,w.heap.size≤q)∧Below w.heap.size w w':=by
 obtain⟨hK,hM,rfl,rfl,rfl⟩:=hkm;have HI:=qd (And.intro hK (And.intro hM hi8));have hB0:=Blk.new w 23 #[.int .i64 (K:Int),.int .i64 (M:Int),.int .i64 (I:Int)];have hb0:=(Below.refl w.heap.size w).alloc (Nat.le_refl _) (.cells #[.int .i64 (K:Int),.int .i64 (M:Int),.int .i64 (I:Int)] 23);obtain⟨W,hW⟩:∃W,W=w.alloc (.cells #[.int .i64 (K:Int),.int .i64 (M:Int),.int .i64 (I:Int)] 23):=⟨_,rfl⟩;rw[←hW]at hB0 hb0;have hnb:=core_New H (hE.next hb0) (K:Int) (M:Int) (I:Int) hcf K M I ⟨hK,hM,rfl,rfl,rfl⟩;have c:=hB0.c3;unfold cfgV at hnb⊢;have HNw:=qd hnb;have HX:=qd hB0;have HB:=qd hb0;have HW:=qd hW;have HE:=qd hE;clear hnb hB0 hb0 hW hK hM hi8 hE;go_in;go_upto_region 1 with fail;rw[←HW.out];go_wp2_with fail;refine HNw.out.mono ?_;rintro y w1 ⟨cb,rfl,hnew⟩;obtain⟨GC,hC,hsu,hmo⟩:=new_at hnew;have hb1:=hmo.to_below;have HC:=qd hC;have HSu:=qd (show∀q∈GC,W.heap.size≤q from fun q hq=>(hsu q hq).elim (fun k=>by cases k) (fun k=>k));have HGl:=qd (show∀q∈GC,q<w1.heap.size from fun q hq=>(hC.facts.2.2.2.2.2.2.2.2.2.2.1 q hq).1);replace HX:=qB hb1 HX;have HB1:=qd (below_nx hb1 HB.out);have HL0:=qd hb1.size;have HZ:=qd (show w.heap.size<W.heap.size from by rw[HW.out];simp);clear hnew hC hsu hmo hb1 HNw c;have c:=HX.out.c3;have HIt:=qd (iters_New I HI.out.2.2 w1);unfold coreP;go_wp2_with fail;refine HIt.out.mono ?_;rintro y w2 ⟨rfl,hit,hb2⟩;replace HC:=qd (HC.out.below hb2);replace HX:=qB hb2 HX;have HB2:=qd (below_nx hb2 HB1.out);have HIa:=qd hit
 have HL1:=qd (show W.heap.size≤w1.heap.size∧w1.heap.size+1<w2.heap.size from⟨HL0.out,hit.blk.lt⟩);clear hit hb2 HIt c;have c:=HX.out.c3;obtain⟨ib,hib⟩:∃ib,ib=w1.heap.size+1:=⟨_,rfl⟩;obtain⟨mb,hmb⟩:∃mb,mb=w1.heap.size:=⟨_,rfl⟩;rw[←hib]at HIa HL1⊢;rw[←hmb]at HIa;have HQ:=qd (show mb=w1.heap.size∧ib=w1.heap.size+1 from⟨hmb,hib⟩);clear hib hmb;obtain⟨C,hCdef⟩:∃C:RmC,C=⟨(K:Int),(M:Int),(I:Int),cb,0,0,⟨0,0,0⟩,⟨0,0,0⟩,ib,⟨0,0,0⟩,⟨0,0,0⟩⟩:=⟨_,rfl⟩;have hbb:=(Below.refl w2.heap.size w2).alloc (Nat.le_refl _) (.cells C.cells 114);have hnb:=Blk.new w2 114 C.cells
 have hS:RtS W0 E H K M I w2.heap.size [] w C GC mb 0 (w2.alloc (.cells C.cells 114)) pool0 [] []:=by
  have h1:=HL1.out.1;have h2:=HL1.out.2;obtain⟨g1,g2⟩:=HQ.out;have hg:=HGl.out;have hs:=HSu.out;have hz:=HZ.out;have hw0:=HE.out.size
  have e1:C.cb=cb:=by rw[hCdef]
  have e2:C.ib=ib:=by rw[hCdef]
  have hf:∀q,q∈itFoot ib mb []→q=ib∨q=mb:=fun q hq=>by unfold itFoot at hq;simpa using hq
  refine⟨⟨hnb,by rw[hCdef];exact Nat.zero_le _,by rw[hCdef];exact Nat.zero_le _⟩,by rw[hCdef];exact⟨rfl,rfl,rfl⟩,by rw[e1];exact HC.out.below hbb,by rw[e2];exact HIa.out.below hbb,⟨by omega,fun q hq=> ?_⟩,⟨fun hh=>by have:=hg _ hh;omega,fun hh=> ?_,fun q hq hh=> ?_⟩,fun q hq=> .inr ?_,(Mod.of_below (below_nx hbb HB2.out) []),hw0⟩
  ·rw[e2]at hq;rcases hf q hq with k|k<;>omega
  ·rw[e2]at hh;rcases hf _ hh with k|k<;>omega
  ·rw[e2]at hq;have:=hg q hh;rcases hf q hq with k|k<;>omega
  ·rcases mem_rtFoot.1 hq with k|k|k
   ·omega
   ·rw[e2]at k;rcases hf q k with k|k<;>omega
   ·have:=hs q k;omega
 have hto:=hS.to;have hbz:=below_nx hbb HB2.out;rw[hCdef]at hto hbz;unfold RmC.cells at hto hbz;have HF:=qd (And.intro hto hbz);clear hS hto hbz hbb hnb hCdef;go_wp2;refine bodyPost_ret (v:= .tuple #[.pointer (some ⟨w2.heap.size,0,none⟩),.nilIface]) (by simp[results,Tryz.results28,go_sem]) rfl ?_;obtain⟨G',k1,k2,k3⟩:=HF.out.1;exact⟨w2.heap.size,G',rfl,k1,fun q hq=>(k2 q hq).elim (fun z=>by cases z) (fun z=>z),HF.out.2⟩
theorem rt_New_bad (hE:Env W0 E w)(k m i:Int)(hcf:cfgOk k m i=false):Calls Tryz.prog 28 #[cfgV k m i] w fun y w'=>y= .returned (.tuple #[.pointer none,errV E 1])∧Below w.heap.size w w':=by
 have hB0:=Blk.new w 23 #[.int .i64 k,.int .i64 m,.int .i64 i];have hb0:=(Below.refl w.heap.size w).alloc (Nat.le_refl _) (.cells #[.int .i64 k,.int .i64 m,.int .i64 i] 23);obtain⟨W,hW⟩:∃W,W=w.alloc (.cells #[.int .i64 k,.int .i64 m,.int .i64 i] 23):=⟨_,rfl⟩;rw[←hW]at hB0 hb0;have hnb:=core_New_bad (hE.next hb0) k m i hcf;obtain⟨c0,c1,c2⟩:=hB0.c3;rw[errV_pos E (by omega:1≤1)]at hnb⊢;unfold cfgV at hnb⊢;have HNw:=qd hnb;have HB:=qd hb0;have HW:=qd hW;clear hnb hB0 hb0 hW hE;go_in;go_upto_region 1 with fail;rw[←HW.out];go_wp2_with fail;refine HNw.out.mono ?_;rintro y w1 ⟨rfl,hb⟩;have HB1:=qd (below_nx hb HB.out);clear hb HNw;go_wp2;refine bodyPost_ret (v:= .tuple #[.pointer none,.iface 372 (.pointer (some (E 1)))]) (by simp[results,Tryz.results28,go_sem]) rfl ⟨rfl,HB1.out⟩
end
section
variable {ops : Array Oper} {rest : List Oper} {o : Oper} {a : Act} {Q : Exit → Act → World → Prop} {r : Nat} {seen : Array Nat} {E : Nat → Addr} {w2 : World}
theorem map_erase {α β:Type}(f:α→β):∀(l:List α) (j:Nat),(l.map f).eraseIdx j=(l.eraseIdx j).map f
 | [],_=>by simp
 |x::l,0=>rfl
 |x::l,j+1=>by simp[map_erase f l j]
section
variable {P : Program} {w w' : World} {b g : Nat} {l : List (Nat × Nat)} {t k e : TypeId}
theorem MapL.del (h:MapL w b g l)(ht:P.underlying t=some (.map k e))(hk:P.underlying k=some (.int .i64)){j:Nat}{p:Nat×Nat}(hj:l[j]?=some p)(hn:(l.map Prod.fst).Nodup)(ty:TypeId):
  (Builtin.delete_ #[t,k] ty #[.map (some b),.int .i64 (p.1:Int)]).run P w= .ok (.tuple #[]) (setBlock w b (.map ((l.eraseIdx j).map mEnt).toArray g)):=by
 obtain⟨a,h1,h2,h4⟩:=find_now (p.1:Int) l 0;have h3:=run_findKey (P:=P) (w:=w) hk h1
 cases a with
 |none=>
  have:findL l (p.1:Int)=none:=by cases hf:findL l (p.1:Int)with|none=>rfl|some q=>rw[hf]at h2;cases h2
  exact absurd rfl (findL_none.1 this p (List.mem_of_getElem? hj))
 |some q=>
  obtain⟨i,v⟩:=q;obtain⟨j',h5,h6⟩:=h4 _ rfl
  have hij:i=j:=by
   simp only[Nat.zero_add]at h5;rw[List.getElem?_map]at h6
   cases hq:l[j']? with
   |none=>rw[hq]at h6;cases h6
   |some q'=>
    rw[hq]at h6
    have e0:(q'.1:Int)=(p.1:Int):=by simpa using h6
    have e1:q'.1=p.1:=by omega
    have a1:(l.map Prod.fst)[j']?=some p.1:=by rw[List.getElem?_map,hq];simp[e1]
    have a2:(l.map Prod.fst)[j]?=some p.1:=by rw[List.getElem?_map,hj];rfl
    obtain⟨b1,b2⟩:=List.getElem?_eq_some_iff.1 a1;obtain⟨b3,b4⟩:=List.getElem?_eq_some_iff.1 a2;rw[h5];have hp:=List.pairwise_iff_getElem.1 hn;rcases Nat.lt_trichotomy j' j with z|z|z
    ·exact absurd (b2.trans b4.symm) (hp _ _ b1 b3 z)
    ·exact z
    ·exact absurd (b4.trans b2.symm) (hp _ _ b3 b1 z)
  subst hij;simp[Builtin.delete_,run_underlying ht,Go.MapKept.run_getObj_map (show w.heap[b]?=some (.map (l.map mEnt).toArray g)from h),run_checkKey hk key_int,h3,Go.MapKept.run_setObj_map _ (show w.heap[b]?=some (.map (l.map mEnt).toArray g)from h),Result.andThen,setBlock,map_erase]
end
section
variable {w : World} {ib mb most given : Nat} {its : List It}
def It.ended (i:It):It:=⟨i.id,i.cb,⟨0,0,true⟩⟩
theorem ItAt.ended (h:ItAt w ib mb most given its)(hb:Blk w2 ib 157 #[.int .i64 (most:Int),.int .i64 (given:Int),.map (some mb)])(hm:MapL w2 mb given (itMap its))(hc:∀i∈its,CurAt w2 i.cb ⟨0,0,true⟩):ItAt w2 ib mb most given (its.map It.ended):=by
 have e1:(its.map It.ended).map It.cb=its.map It.cb:=by rw[List.map_map];rfl
 have e2:(its.map It.ended).map It.id=its.map It.id:=by rw[List.map_map];rfl
 refine⟨hb,by unfold itMap at hm⊢;rw[List.map_map];exact hm,fun i hi=> ?_,fun i hi=> ?_,by rw[e2];exact h.nd,by have:=h.nf;unfold itFoot at this⊢;rw[e1];exact this,h.few.1,by rw[List.length_map];exact h.few.2⟩
 ·obtain⟨i',hi',rfl⟩:=List.mem_map.1 hi;exact hc i' hi'
 ·obtain⟨i',hi',rfl⟩:=List.mem_map.1 hi;exact h.ids i' hi'
end
end
end Go.Proofs.YtfbljmcjadfkoaaGreatDoor
