/- A core told with what its last operation counted. No statement of the claim. -/
import Derived.Test.YtchlkhkeonnmdacGreatDoorRmB
import Derived.Test.YtchlkhkeonnmdacGreatDoorCoG
import Derived.Test.YtchlkhkeonnmdacGreatDoorSqT
import Derived.Test.YtchlkhkeonnmdacGreatDoorLaneP
import Derived.Test.YtchlkhkeonnmdacGreatDoorKit2
import Derived.Defers
import Derived.Recover
import Derived.MapKept
import Derived.ChangeMaps5
import Derived.WideLaws
namespace Go.Proofs.YtchlkhkeonnmdacGreatDoor
set_option maxRecDepth 100000
set_option maxHeartbeats 4000000
open Go.RowKit AmC Go.MapKept
open Go.ChangeMaps (setBlock heap_setBlock_same heap_setBlock_other)
section
def CoreAtC (W0:World)(E:Nat→Addr)(H:Nat→Nat)(K M mb:Nat)(G:List Nat)(w:World)(a:Pool)(ids:List Nat)(c:Cnt):Prop:=
 ∃(C:CPl) (F:List Nat) (len:Nat) (b:Int) (x:Mtr),C.mb=mb∧C.K=K∧C.M=M∧G=C.foot F∧CoreF W0 E H C w (C.foot F) w F ⟨a,ids,len,b,x⟩∧CInv a ids []∧len=a.ents.length∧len≤M∧x.last=c
def LeC (c:Cnt):Prop:=0≤c.p∧c.p≤192∧c.u=0
section
variable {W0 : World} {E : Nat → Addr} {H : Nat → Nat} {K M mb : Nat} {G : List Nat} {w w' : World} {a : Pool} {ids : List Nat} {c : Cnt}
theorem CoreAtC.at_ (h:CoreAtC W0 E H K M mb G w a ids c):CoreAt W0 E H K M mb G w a ids:=by
 obtain⟨C,F,len,b,x,h1,h2,h3,h4,h5,h6,h7,h8,_⟩:=h;exact⟨C,F,len,b,x,h1,h2,h3,h4,h5,h6,h7,h8⟩
theorem CoreAt.c_ (h:CoreAt W0 E H K M mb G w a ids):∃c,CoreAtC W0 E H K M mb G w a ids c:=by
 obtain⟨C,F,len,b,x,h1,h2,h3,h4,h5,h6,h7,h8⟩:=h;exact⟨_,C,F,len,b,x,h1,h2,h3,h4,h5,h6,h7,h8,rfl⟩
theorem core_Meter (cb:Nat)(w:World):Calls Tryz.prog 31 #[.pointer (some ⟨cb,0,none⟩)] w fun y w'=>y= .returned (.pointer (some ⟨cb,3,none⟩))∧w=w':=by
 go_in;go_wp2;go_ret;exact⟨rfl,rfl⟩
theorem at_Last (h:CoreAtC W0 E H K M mb G w a ids c):Calls Tryz.prog 32 #[.pointer (some ⟨mb,3,none⟩)] w fun y w'=>y= .returned (cntV c)∧Below w.heap.size w w':=by
 obtain⟨C,F,len,b,x,h1,h2,h3,h4,h5,h6,h7,h8,h9⟩:=h;rw[←h1,←h9];exact meter_Last (show Met w C.mb _ _ _ 3 x.all x.last C.m from h5.sch.met)
theorem CoreAtC.mod {S:List Nat}(h:CoreAtC W0 E H K M mb G w a ids c)(hm:Mod S w w')(hS:∀q∈S,q∉G∧W0.heap.size≤q):CoreAtC W0 E H K M mb G w' a ids c:=by
 obtain⟨C,F,len,b,x,h1,h2,h3,rfl,hC,hi,hl,hm',hx⟩:=h
 have hd:∀q∈S,q≠C.mb∧q∉C.s.blocks∧q∉F∧C.v.ownBlock≠some q:=fun q hq=>by
  have:=(hS q hq).1;rw[mem_foot]at this;simp only[not_or]at this;exact this
 refine⟨C,F,len,b,x,h1,h2,h3,rfl,⟨SchSt.start (hC.sch.sch.mod hm (fun q hq hqS=>(hd q hqS).2.1 hq)) (hC.hp.stab hC.sch.pool hm (fun q hq hqS=>(hd q hqS).2.2.1 hq)) (hC.sch.met.mod hm (fun hq=>(hd _ hq).1 rfl)) (hC.sch.env.mod hm (fun q hq=>(hS q hq).2)) hC.sch.apart hC.sch.mb0,own_far hC.row hm (fun k hk hkS=>(hd k hkS).2.2.2 hk),hC.rap,hC.pos,hC.kk,hC.mm, ?_,fun q hq=> .inl hq,Mod.refl _ _⟩,hi,hl,hm',hx⟩;have:=hC.sch.env.size;have:=hm.size;omega
theorem CoreAtC.below (h:CoreAtC W0 E H K M mb G w a ids c)(hb:Below w.heap.size w w'):CoreAtC W0 E H K M mb G w' a ids c:=h.mod (Mod.of_below hb []) (by simp)
theorem at_LeastC (h:CoreAt W0 E H K M mb G w a ids)(key hash:Nat)(h64:hash<18446744073709551616):Calls Tryz.prog 78 #[coreP mb,.int .u64 (hash:Int),.int .u64 (key:Int)] w fun y w'=>
  ∃(o:Option Ent) (hi:Nat) (c:Cnt) (G':List Nat),y= .returned (.tuple #[entV (o.getD ⟨0,0,0⟩),.bool o.isSome,.int .u64 (hi:Int)])∧(hash≤hi∧hi<18446744073709551616∧hi∈highs a∧(∀x∈highs a,hash≤x→hi≤x)∧IsLeast ⟨key,0,hash⟩ (upto a.ents hi) o)∧LeC c∧CoreAtC W0 E H K M mb G' w' a ids c∧(∀q∈G',q∈G∨w.heap.size≤q)∧Mod G w w':=by
 obtain⟨f1,f2,f3,f4,f5,f6,_⟩:=h.facts;obtain⟨C,F,len,b,x,h1,h2,h3,rfl,hC,hi,hl,hm⟩:=h;rw[←h1];refine(core_Least hC hi key hash h64).mono ?_;rintro y w' ⟨v,rfl,id,N,o,x',hN,hid,hIs,rfl,hc,hco⟩;replace hN:a.Ns[id]?=some N:=hN;replace hid:id=a.l.getD (topOf hash a.d) 0:=hid;obtain⟨N',hN',htop⟩:=f1.dir.at_ h64 f2;rw[←hid,hN]at hN';cases hN';have hok:=f6 id N hN;obtain⟨r1,r2⟩:=top_range.1 htop;have hlow:=lowOf_lt (d:=N.dpt) (p:=N.pfx) (by have:=hok.deep;omega) hok.pfx;have hp:=pos2 (64-N.dpt);obtain⟨k1,k2,k3,k4⟩:=hco (Int.le_refl _) (Int.le_refl _)
 have hi64:highOf N.pfx N.dpt<18446744073709551616:=by unfold lowOf at hlow;unfold highOf;omega
 refine⟨o,highOf N.pfx N.dpt,x'.last,_,rfl,⟨r2,hi64,List.mem_map.2 ⟨N,List.mem_of_getElem? hN,rfl⟩,fun x hx hle=> ?_,isLeast_sub hIs (fun e he hle=> ?_) (fun e he=> ?_)⟩,⟨k1,by simp only at k2;omega,by simp only at k4;omega⟩,⟨C,F,len,b,x',rfl,h2,h3,rfl,hc.again,hi,hl,hm,rfl⟩,hc.sub,hc.mod⟩
 ·obtain⟨N2,hN2,rfl⟩:=List.mem_map.1 hx;obtain⟨j,hj⟩:=List.mem_iff_getElem?.1 hN2;by_cases hlt:highOf N2.pfx N2.dpt<highOf N.pfx N.dpt
  ·have e1:=f1.dir.is_ (by omega) f2 hN (top_range.2 ⟨Nat.le_trans r1 hle,Nat.le_of_lt hlt⟩);have e2:=f1.dir.is_ (by omega) f2 hj (top_range.2 ⟨by unfold lowOf highOf;have:=pos2 (64-N2.dpt);omega,Nat.le_refl _⟩);rw[e1]at e2;subst e2;rw[hN]at hj;cases hj;exact Nat.le_refl _
  ·omega
 ·obtain⟨g1,g2⟩:=mem_upto.1 he;obtain⟨j,M',k1,k2⟩:=mem_pool.1 g1;obtain⟨k3,k4⟩:=(f6 j M' k1).hash e k2;have e1:=f1.dir.is_ k3.h64 f2 k1 k4;have e2:=f1.dir.is_ k3.h64 f2 hN (top_range.2 ⟨by have:=less_hash hle;omega,g2⟩);rw[e1]at e2;subst e2;rw[hN]at k1;cases k1;exact k2
 ·obtain⟨k3,k4⟩:=hok.hash e he;exact mem_upto.2 ⟨mem_pool.2 ⟨id,N,hN,he⟩,(top_range.1 k4).2⟩
def PutR (H:Nat→Nat)(K M:Nat)(a:Pool)(ids:List Nat)(e:Ent)(a':Pool)(ids':List Nat):Prop:=a'.ents.Perm (putL M a.ents e)∧(look a.ents e.key=none→a.ents.length<M→WrS H K a ids [] [e] a' ids')
theorem at_putW (h:CoreAt W0 E H K M mb G w a ids)(e:Ent)(he:EntOk H e):Calls Tryz.prog 29 #[coreP mb,.int .u64 (e.key:Int),.int .u64 (e.val:Int),.int .u64 (e.hash:Int)] w fun y w'=>
  y= .returned (errV E (putC M a.ents e.key))∧∃a' ids',CoreTo W0 E H K M mb G w w' a' ids'∧PutR H K M a ids e a' ids':=by
 obtain⟨f1,f2,f3,f4,f5,f6,_,_,_,f10,_⟩:=h.facts;refine(at_Put h e he).mono ?_;rintro y w' (⟨h1,h2,rfl,hto⟩|⟨a',ids',h1,h2,rfl,hw,hto⟩|⟨a',ids',e0,h1,rfl,hw,hto⟩)
 ·have hf:fullB M a.ents e.key=true:=by simp[fullB,h1,h2]
  unfold PutR putC putL;rw[hf];exact⟨rfl,a,ids,hto,.refl _,fun _ hl=>by omega⟩
 ·have hf:fullB M a.ents e.key=false:=by simp[fullB,h1];omega
  unfold PutR putC putL;rw[hf,rest_none h1];have hw0:=hw;obtain⟨_,_,_,_,_,_,⟨r,hr1,hr2⟩,_⟩:=hw;have h3:(e::r).Perm (e::a.ents):= .cons e hr1.symm;exact⟨rfl,a',ids',hto,hr2.trans (h3.trans (List.perm_append_singleton e a.ents).symm),fun _ _=>hw0⟩
 ·have hf:fullB M a.ents e.key=false:=by simp[fullB,h1]
  unfold PutR putC putL;rw[hf];obtain⟨_,_,_,_,_,_,⟨r,hr1,hr2⟩,_⟩:=hw;obtain⟨m1,m2⟩:=look_mem h1;obtain⟨j,N,k1,k2⟩:=mem_pool.1 m1;obtain⟨k3,_⟩:=(f6 j N k1).hash e0 k2
  have hee:({e0 with val:=e.val}:Ent)=e:=by
   have h4:e0.hash=e.hash:=by rw[k3.hash,m2,he.hash]
   obtain⟨a1,a2,a3⟩:=e;simp only at m2 h4;simp[m2,h4]
  rw[hee]at hr2;have h3:=rest_cons f10 hr1;rw[m2]at h3;exact⟨rfl,a',ids',hto,hr2.trans ((List.Perm.cons e h3.symm).trans (List.perm_append_singleton e _).symm),fun hl=>by rw[h1]at hl;cases hl⟩
end
end
section
structure Cur where
 hash:Nat
 key:Nat
 done:Bool
def behind (hash key:Nat):Cur:=if key<18446744073709551615 then⟨hash,key+1,false⟩else if hash<18446744073709551615 then⟨hash+1,0,false⟩else⟨0,0,true⟩
def Cur.ok (c:Cur):Prop:=c.hash<18446744073709551616∧c.key<18446744073709551616
def Cur.cells (c:Cur):Array Value:= #[.int .u64 (c.key:Int),.int .u64 0,.int .u64 (c.hash:Int),.bool c.done]
def CurAt (w:World)(b:Nat)(c:Cur):Prop:=Blk w b 150 c.cells
theorem CurAt.blk {w:World}{b:Nat}{c:Cur}(h:CurAt w b c):Blk w b 150 #[.int .u64 (c.key:Int),.int .u64 0,.int .u64 (c.hash:Int),.bool c.done]:=h
theorem CurAt.lt {w:World}{b:Nat}{c:Cur}(h:CurAt w b c):b<w.heap.size:=Blk.lt h
theorem CurAt.mod {S:List Nat}{w w':World}{b:Nat}{c:Cur}(h:CurAt w b c)(hm:Mod S w w')(hb:b∉S):CurAt w' b c:=Blk.mod h hm hb
instance {w w':World}{b:Nat}{c:Cur}:Md (CurAt w b c) w w' (CurAt w' b c) (fun S=>b∉S):=⟨fun h hm hs=>CurAt.mod h hm hs⟩
theorem catch_idle (p:Addr)(w:World):
  CallsD Tryz.prog 57 #[.pointer (some p)] .returning w fun e u' w'=>e= .returned (.tuple #[])∧u'= .returning∧w'=w:=by
 refine callsD_of_wpS Tryz.func57 rfl fun c₀ cs hu=> ?_;apply wpS_seq;apply wpS_region;simp[wpOpsS,go_sem,recoverD,hu,Tryz.ntmps57,Exit.thenS];refine wpS_of_wp ?_;go_wp2;cases c₀
 simp_all[bodyPostS,results,Tryz.results57]
theorem eqIn_fn (d:Nat)(fn:Fn)(a b:Array Value)(w:World):(Op.equalIn (d+1) 1 (.func fn a b) .nilFunc).run Tryz.prog w= .ok false w:=by simp[Op.equalIn,run_underlying Tryz.underlying1]
theorem eq_fn (fn:Fn)(a b:Array Value)(w:World):(Op.equal 1 (.func fn a b) .nilFunc).run Tryz.prog w= .ok false w:=eqIn_fn 9999 fn a b w
theorem trap_Catch {S:List Nat}{K:World→Prop}(G:FuncId)(cap:Array Value)(w:World)(hG:∀W:World,(callFunc G cap).run Tryz.prog W= .ok (.enter G cap) W)(hS:w.heap.size∉S)
  (hc:Calls Tryz.prog G cap (w.alloc (.cells #[.nilIface] 31)) fun e w1=>e= .returned (.tuple #[])∧Mod S (w.alloc (.cells #[.nilIface] 31)) w1∧K w1):
  Calls Tryz.prog 27 #[.func (.func G) #[] cap] w fun e w1=>e= .returned .nilIface∧Mod S (w.alloc (.cells #[.nilIface] 31)) w1∧K w1:=by
 have hmf:∀(fn:Fn) (first cap:Array Value) (w:World),(Instr.makeFunc fn first cap).run Tryz.prog w= .ok (.func fn first cap) w:=fun _ _ _ _=>rfl
 have hq:∀W:World,(binOp .eql 1 (.func (.func G) #[] cap) .nilFunc).run Tryz.prog W= .ok (.bool false) W:=fun W=>by
  simp only[binOp];simp[eq_fn]
 have HC:=qd hc;clear hc;go_enter_defers Tryz.func27,Tryz.ntmps27;go_wp2_with fail;refine HC.out.mono ?_;rintro y w1 ⟨rfl,hm,hk⟩;have hB:=(Blk.new w 31 #[.nilIface]).mod hm hS;have hid:=hB.setCell_id (i:=0) (u:= .nilIface) rfl;have c0:=hB.cell 0;have f0:=hB.frozen 0;simp only[List.getElem?_toArray,List.getElem?_cons_zero]at c0;have HI:=qd hid;have HM:=qd hm;have HK:=qd hk;clear hB hid hm hk HC;go_wp2;rw[HI.out];refine leaves_cons (f:=57) (args:= #[.pointer (some ⟨w.heap.size,0,none⟩)]) (by simp) (by simp[go_sem]) ?_;refine(catch_idle ⟨w.heap.size,0,none⟩ _).mono ?_;rintro e u' w2 ⟨rfl,rfl,rfl⟩;simp[Leaves,settle,results,Tryz.results27,go_sem,c0];exact⟨HM.out,HK.out⟩
theorem split_After (e:Ent)(hk:e.key<18446744073709551616)(hh:e.hash<18446744073709551616)(w:World):Calls Tryz.prog 115 #[entV e] w fun y w'=>y= .returned (.tuple #[.int .u64 ((behind e.hash e.key).hash:Int),.int .u64 ((behind e.hash e.key).key:Int),.bool (!(behind e.hash e.key).done)])∧Below w.heap.size w w':=by
 have hB:=(Below.refl w.heap.size w).alloc (Nat.le_refl _) (.cells #[.int .u64 (e.key:Int),.int .u64 (e.val:Int),.int .u64 (e.hash:Int)] 59);have hE:=Blk.new w 59 #[.int .u64 (e.key:Int),.int .u64 (e.val:Int),.int .u64 (e.hash:Int)];obtain⟨W,hW⟩:∃W,W=w.alloc (.cells #[.int .u64 (e.key:Int),.int .u64 (e.val:Int),.int .u64 (e.hash:Int)] 59):=⟨_,rfl⟩;rw[←hW]at hB hE;have c0:=hE.cell 0;have c2:=hE.cell 2;simp only[gl]at c0 c2;have HW:=qd hW;have HB:=qd hB;clear hW hB hE;unfold entV behind;by_cases h1:e.key<18446744073709551615
 ·rw[if_pos h1]
  have hlt:(e.key:Int)<18446744073709551615:=by omega
  have hw:IntKind.u64.wrap ((e.key:Int)+1)=((e.key+1:Nat):Int):=by rw[IntKind.wrap_u64];omega
  go_in;go_upto_region 1 with fail;rw[←HW.out];go_upto_region 2 with fail;go_region;go_wp2;refine bodyPost_ret (v:= .tuple #[.int .u64 (e.hash:Int),.int .u64 ((e.key+1:Nat):Int),.bool true]) (by simp[results,Tryz.results115,go_sem]) rfl ⟨rfl,HB.out.drew⟩
 ·have hlt:¬(e.key:Int)<18446744073709551615:=by omega
  rw[if_neg h1];by_cases h2:e.hash<18446744073709551615
  ·rw[if_pos h2]
   have hlt2:(e.hash:Int)<18446744073709551615:=by omega
   have hw:IntKind.u64.wrap ((e.hash:Int)+1)=((e.hash+1:Nat):Int):=by rw[IntKind.wrap_u64];omega
   go_in;go_upto_region 1 with fail;rw[←HW.out];go_wp2;refine bodyPost_ret (v:= .tuple #[.int .u64 ((e.hash+1:Nat):Int),.int .u64 0,.bool true]) (by simp[results,Tryz.results115,go_sem]) rfl ⟨rfl,HB.out⟩
  ·rw[if_neg h2]
   have hlt2:¬(e.hash:Int)<18446744073709551615:=by omega
   go_in;go_upto_region 1 with fail;rw[←HW.out];go_wp2;refine bodyPost_ret (v:= .tuple #[.int .u64 0,.int .u64 0,.bool false]) (by simp[results,Tryz.results115,go_sem]) rfl ⟨rfl,HB.out⟩
theorem cursor_New (w:World):Calls Tryz.prog 73 #[] w fun y w'=>y= .returned (.pointer (some ⟨w.heap.size,0,none⟩))∧CurAt w' w.heap.size ⟨0,0,false⟩∧Below w.heap.size w w':=by
 go_in;go_wp2;go_ret;exact⟨rfl,Blk.new _ _ _,(Below.refl _ _).alloc (Nat.le_refl _) _⟩
section
variable {w : World} {b : Nat} {c : Cur}
theorem cursor_At (h:CurAt w b c):Calls Tryz.prog 77 #[.pointer (some ⟨b,0,none⟩)] w fun y w'=>y= .returned (.tuple #[.int .u64 (c.hash:Int),.int .u64 (c.key:Int)])∧Below w.heap.size w w':=by
 have c0:=h.blk.cell 0;have c2:=h.blk.cell 2;simp only[gl]at c0 c2;clear h;go_in;go_upto_region 1 with fail;go_region;go_wp2;refine bodyPost_ret (v:= .tuple #[.int .u64 (c.hash:Int),.int .u64 (c.key:Int)]) (by simp[results,Tryz.results77,go_sem]) rfl ⟨rfl,(Below.refl _ _).drew⟩
theorem cursor_Done (h:CurAt w b c):Calls Tryz.prog 47 #[.pointer (some ⟨b,0,none⟩)] w fun y w'=>y= .returned (.bool c.done)∧w=w':=by
 have c3:=h.blk.cell 3;simp only[gl]at c3;clear h;go_in;go_wp2;go_ret;exact⟨rfl,rfl⟩
theorem cursor_End (h:CurAt w b c):Calls Tryz.prog 163 #[.pointer (some ⟨b,0,none⟩)] w fun y w'=>y= .returned undef∧CurAt w' b ⟨0,0,true⟩∧Mod [b] w w':=by
 obtain⟨c0,c1,c2,c3⟩:=h.blk.c4;obtain⟨f0,f1,f2,f3⟩:=h.blk.f4;have hn:=(((h.blk.set_ 0 (.int .u64 0)).set_ 1 (.int .u64 0)).set_ 2 (.int .u64 0)).set_ 3 (.bool true);simp only[pt]at hn;have HN:=qd (And.intro hn (((((Mod.refl [b] w).sl 0 (.int .u64 0)).sl 1 (.int .u64 0)).sl 2 (.int .u64 0)).sl 3 (.bool true)));clear h hn;go_in;go_wp2;go_end0;exact⟨rfl,HN.out⟩
theorem cursor_Behind (h:CurAt w b c)(hd:c.done=false)(e:Ent):Calls Tryz.prog 113 #[.pointer (some ⟨b,0,none⟩),entV e] w fun y w'=>y= .returned (.bool (lessE e ⟨c.key,0,c.hash⟩))∧Below w.heap.size w w':=by
 have hB:=(Below.refl w.heap.size w).alloc (Nat.le_refl _) (.cells #[.int .u64 (e.key:Int),.int .u64 (e.val:Int),.int .u64 (e.hash:Int)] 59);have hE:=Blk.new w 59 #[.int .u64 (e.key:Int),.int .u64 (e.val:Int),.int .u64 (e.hash:Int)];obtain⟨W,hW⟩:∃W,W=w.alloc (.cells #[.int .u64 (e.key:Int),.int .u64 (e.val:Int),.int .u64 (e.hash:Int)] 59):=⟨_,rfl⟩;rw[←hW]at hB hE;have hC:CurAt W b c:=h.mod (Mod.of_below hB []) (by simp);obtain⟨c0,c1,c2,c3⟩:=hC.blk.c4;rw[hd]at c3;obtain⟨e0,e1,e2⟩:=hE.c3;have HL:=qd (fun V=>split_Less e ⟨c.key,0,c.hash⟩ V);have HW:=qd hW;have HB:=qd hB;unfold entV at HL⊢;simp only[Int.natCast_zero]at HL;clear hW hB hE hC h;go_in;go_upto_region 1 with fail;rw[←HW.out];refine rT (fun(w':World)=>w'.cell? ⟨w.heap.size,0,none⟩=some (.int .u64 (e.key:Int))∧w'.cell? ⟨w.heap.size,1,none⟩=some (.int .u64 (e.val:Int))∧w'.cell? ⟨w.heap.size,2,none⟩=some (.int .u64 (e.hash:Int))∧w'.cell? ⟨b,0,none⟩=some (.int .u64 (c.key:Int))∧w'.cell? ⟨b,1,none⟩=some (.int .u64 0)∧w'.cell? ⟨b,2,none⟩=some (.int .u64 (c.hash:Int))∧w'.cell? ⟨b,3,none⟩=some (.bool false)) [10] ?_;have hHeld:=(⟨e0,e1,e2,c0,c1,c2,c3⟩:_∧_∧_∧_∧_∧_∧_);refine vW 0 rfl ?_;refine vW 1 rfl ?_;refine vW 2 rfl ?_;refine vT 3 rfl ?_;refine vW 4 rfl ?_;refine vT 5 rfl ?_;refine vW 6 rfl ?_;refine vW 7 rfl ?_;refine vW 8 rfl ?_;refine vT 9 rfl ?_;refine nT 10 rfl fun K hK=> ?_;go_simp;refine(HL.out _).mono ?_;rintro y W1 ⟨rfl,hb⟩
 replace hb:Below W.heap.size W W1:=below_nx hb (Below.refl _ _).drew;replace HB:=qd (below_nx hb HB.out);clear hb;go_wp2_with fail;refine kO hK ?_;clear hK K;refine vL 11 rfl ?_;refine vL 12 rfl ?_;refine doneT (by kernel_rfl) ?_ _;go_wp2;go_ret;exact⟨rfl,HB.out⟩
theorem cursor_move (h:CurAt w b c)(c':Cur)(hd:c.done=false)(h0:c'.done=true→c'=⟨0,0,true⟩):Calls Tryz.prog 114 #[.pointer (some ⟨b,0,none⟩),.int .u64 (c'.hash:Int),.int .u64 (c'.key:Int),.bool (!c'.done)] w fun y w'=>y= .returned undef∧CurAt w' b c'∧Mod [b] w w':=by
 have HE:=qd (cursor_End h);obtain⟨c0,c1,c2,c3⟩:=h.blk.c4;obtain⟨f0,f1,f2,f3⟩:=h.blk.f4;have hn:=((h.blk.set_ 0 (.int .u64 (c'.key:Int))).set_ 1 (.int .u64 0)).set_ 2 (.int .u64 (c'.hash:Int));simp only[pt]at hn;have HN:=qd (And.intro hn ((((Mod.refl [b] w).sl 0 (.int .u64 (c'.key:Int))).sl 1 (.int .u64 0)).sl 2 (.int .u64 (c'.hash:Int))));clear h hn
 cases hc:c'.done with
 |true=>
  have:=h0 hc;subst this;go_in;go_wp2_with fail;refine HE.out.mono ?_;rintro y w1 ⟨rfl,hC,hm⟩;go_wp2;refine bodyPost_ret (results_none rfl _ _ _) rfl ?_;exact⟨rfl,hC,hm⟩
 |false=>
  have HD:=qd hd;have HQ:=qd hc;clear hd hc h0;go_in;go_wp2;go_end0;refine⟨rfl, ?_,HN.out.2⟩;have h1:=HN.out.1;unfold CurAt Cur.cells;rw[HQ.out];rw[HD.out]at h1;exact h1
theorem behind_end {h k:Nat}(hd:(behind h k).done=true):behind h k=⟨0,0,true⟩:=by
 unfold behind at hd⊢;split
 ·rename_i h1;rw[if_pos h1]at hd;cases hd
 ·rename_i h1;rw[if_neg h1]at hd;split
  ·rename_i h2;rw[if_pos h2]at hd;cases hd
  ·rfl
theorem cursor_Pass (h:CurAt w b c)(hd:c.done=false)(e:Ent)(hk:e.key<18446744073709551616)(hh:e.hash<18446744073709551616)(hl:lessE e ⟨c.key,0,c.hash⟩=false):Calls Tryz.prog 79 #[.pointer (some ⟨b,0,none⟩),entV e] w fun y w'=>y= .returned .nilIface∧CurAt w' b (behind e.hash e.key)∧Mod [b] w w':=by
 have hB:=(Below.refl w.heap.size w).alloc (Nat.le_refl _) (.cells #[.int .u64 (e.key:Int),.int .u64 (e.val:Int),.int .u64 (e.hash:Int)] 59);have hE:=Blk.new w 59 #[.int .u64 (e.key:Int),.int .u64 (e.val:Int),.int .u64 (e.hash:Int)];obtain⟨W,hW⟩:∃W,W=w.alloc (.cells #[.int .u64 (e.key:Int),.int .u64 (e.val:Int),.int .u64 (e.hash:Int)] 59):=⟨_,rfl⟩;rw[←hW]at hB hE;have hC:CurAt W b c:=h.mod (Mod.of_below hB []) (by simp);have HBe:=qd (cursor_Behind hC hd e);rw[hl]at HBe;have HAf:=qd (fun V=>split_After e hk hh V);have HC:=qd hC;have HE:=qd hE;have HW:=qd hW;have HB:=qd hB;have HD:=qd hd;obtain⟨e0,e1,e2⟩:=hE.c3;unfold entV at HBe HAf⊢;clear hW hB hE hC h hd hl;go_in;go_upto_region 1 with fail;rw[←HW.out];go_wp2_with fail;refine HBe.out.mono ?_;rintro y w1 ⟨rfl,hb⟩;replace HC:=qB hb HC;replace HE:=qB hb HE;replace HB:=qd (below_nx hb HB.out);clear hb HBe e0 e1 e2;obtain⟨e0,e1,e2⟩:=HE.out.c3;go_wp2_with fail;refine(HAf.out _).mono ?_;rintro y w2 ⟨rfl,hb⟩;replace HC:=qB hb HC;replace HB:=qd (below_nx hb HB.out);clear hb HAf e0 e1 e2;have HM:=qd (cursor_move HC.out (behind e.hash e.key) HD.out behind_end);go_wp2_with fail;refine HM.out.mono ?_;rintro y w3 ⟨rfl,hC3,hm⟩;have HC3:=qd hC3;have HM3:=qd ((Mod.of_below HB.out [b]).then hm);clear hC3 hm;go_wp2;go_ret;exact⟨rfl,HC3.out,HM3.out⟩
theorem cursor_Skip (h:CurAt w b c)(hd:c.done=false)(high:Nat)(hh:high<18446744073709551616)(hl:c.hash≤high):Calls Tryz.prog 80 #[.pointer (some ⟨b,0,none⟩),.int .u64 (high:Int)] w fun y w'=>y= .returned .nilIface∧CurAt w' b (behind high 18446744073709551615)∧Mod [b] w w':=by
 have c2:=h.blk.cell 2;have c3:=h.blk.cell 3;simp only[gl]at c2 c3;rw[hd]at c3
 have hle:¬(high:Int)<(c.hash:Int):=by omega
 have HAf:=qd (show∀V,Calls Tryz.prog 115 #[.agg #[.int .u64 18446744073709551615,.int .u64 0,.int .u64 (high:Int)]] V _ from fun V=>split_After ⟨18446744073709551615,0,high⟩ (by simp only;omega) hh V);have HC:=qd h;have HD:=qd hd;clear h hd hl;go_in;go_wp2_with fail;refine(HAf.out _).mono ?_;rintro y w2 ⟨rfl,hb⟩;replace HC:=qB hb HC;have HB:=qd hb;clear hb HAf c2 c3;have HM:=qd (cursor_move HC.out (behind high 18446744073709551615) HD.out behind_end);go_wp2_with fail;refine HM.out.mono ?_;rintro y w3 ⟨rfl,hC3,hm⟩;have HC3:=qd hC3;have HM3:=qd ((Mod.of_below HB.out [b]).then hm);clear hC3 hm;go_wp2;go_ret;exact⟨rfl,HC3.out,HM3.out⟩
end
end
section
def mEnt (p:Nat×Nat):MapEntry:=⟨.int .i64 (p.1:Int),.pointer (some ⟨p.2,0,none⟩),p.1-1⟩
def MapL (w:World)(b g:Nat)(l:List (Nat×Nat)):Prop:=w.heap[b]?=some (.map (l.map mEnt).toArray g)
def findL (l:List (Nat×Nat))(x:Int):Option Nat:=(l.find? fun p=>decide ((p.1:Int)=x)).map Prod.snd
def ptrO (o:Option Nat):Value:= .pointer (o.map fun b=>⟨b,0,none⟩)
section
variable {P : Program} {w w' : World} {b g : Nat} {l : List (Nat × Nat)} {t k e : TypeId}
theorem MapL.lt (h:MapL w b g l):b<w.heap.size:=(Array.getElem?_eq_some_iff.1 h).1
theorem MapL.mod {S:List Nat}(h:MapL w b g l)(hm:Mod S w w')(hb:b∉S):MapL w' b g l:=(hm.block b h.lt hb).trans h
instance {w w':World}{b g:Nat}{l:List (Nat×Nat)}:Md (MapL w b g l) w w' (MapL w' b g l) (fun S=>b∉S):=⟨fun h hm hs=>MapL.mod h hm hs⟩
theorem MapL.new (w:World):MapL (w.alloc (.map #[] 0)) w.heap.size 0 []:=by
 exact heap_alloc_new w _
theorem find_now (x:Int):∀(l:List (Nat×Nat)) (i:Nat),∃a,Instr.findNow (.int .i64) (.int .i64 x) (l.map mEnt) i=some a∧a.map Prod.snd=(findL l x).map (fun b=>Value.pointer (some ⟨b,0,none⟩))∧∀p,a=some p→∃j,p.1=i+j∧(l.map Prod.fst)[j]?.map (fun n:Nat=>(n:Int))=some x
 | [],_=>⟨none,rfl,rfl,fun _ h=>by cases h⟩
 |p::l,i=>by
  by_cases hp:(p.1:Int)=x
  ·refine⟨some (i,.pointer (some ⟨p.2,0,none⟩)), ?_, ?_,fun q hq=> ?_⟩
   ·subst hp;simp[Instr.findNow,Instr.sameNow,mEnt]
   ·unfold findL;rw[List.find?_cons_of_pos (by simpa using hp)];rfl
   ·cases hq;exact⟨0,rfl,by simp[hp]⟩
  ·obtain⟨a,h1,h2,h3⟩:=find_now x l (i+1);refine⟨a, ?_, ?_,fun q hq=> ?_⟩
   ·have:((x==(p.1:Int))=false):=by simpa using fun h=>hp h.symm
    simp[Instr.findNow,Instr.sameNow,mEnt,this]at h1⊢;exact h1
   ·unfold findL at h2⊢;rw[List.find?_cons_of_neg (by simpa using hp)];exact h2
   ·obtain⟨j,h4,h5⟩:=h3 q hq;exact⟨j+1,by omega,by simpa using h5⟩
theorem key_int {x:Int}:IsKey (.int .i64) (.int .i64 x):=by simp[IsKey]
theorem MapL.look (h:MapL w b g l)(ht:P.underlying t=some (.map k e))(hk:P.underlying k=some (.int .i64))(hz:(zeroValue e).run P w= .ok (.pointer none) w)(x:Int):
  (Instr.lookup t (.map (some b)) (.int .i64 x) true).run P w= .ok (.tuple #[ptrO (findL l x),.bool (findL l x).isSome]) w:=by
 obtain⟨a,h1,h2,_⟩:=find_now x l 0;have h3:=run_findKey (P:=P) (w:=w) hk h1
 cases hf:findL l x with
 |none=>
  rw[hf]at h2
  obtain rfl:a=none:=by cases a with|none=>rfl|some q=>simp at h2
  simp[Instr.lookup,run_underlying ht,Go.MapKept.run_getObj_map (show w.heap[b]?=some (.map (l.map mEnt).toArray g)from h),run_checkKey hk key_int,h3,hz,Result.andThen,ptrO]
 |some c=>
  rw[hf]at h2
  cases a with
  |none=>simp at h2
  |some q=>
   obtain⟨i,v⟩:=q;simp at h2;subst h2;simp[Instr.lookup,run_underlying ht,Go.MapKept.run_getObj_map (show w.heap[b]?=some (.map (l.map mEnt).toArray g)from h),run_checkKey hk key_int,h3,Result.andThen,ptrO]
theorem findL_none {x:Int}:findL l x=none↔∀p∈l,(p.1:Int)≠x:=by
 unfold findL;rw[Option.map_eq_none_iff,List.find?_eq_none];simp
theorem findL_mem {x:Int}{c:Nat}(h:findL l x=some c):∃n:Nat,(n,c)∈l∧(n:Int)=x:=by
 unfold findL at h;rw[Option.map_eq_some_iff]at h;obtain⟨p,h1,rfl⟩:=h;have h2:=List.find?_some h1;exact⟨p.1,List.mem_of_find?_eq_some h1,by simpa using h2⟩
theorem MapL.mod_ (h:MapL w b g l)(o:Obj):Mod [b] w (setBlock w b o):=⟨rfl,rfl,rfl,by simp[setBlock],fun k _ hn=>heap_setBlock_other h o (by simpa using hn)⟩
theorem MapL.put (h:MapL w b g l)(ht:P.underlying t=some (.map k e))(hk:P.underlying k=some (.int .i64))(hf:findL l ((g+1:Nat):Int)=none)(c:Nat):
  (Instr.mapUpdate t (.map (some b)) (.int .i64 ((g+1:Nat):Int)) (.pointer (some ⟨c,0,none⟩))).run P w= .ok () (setBlock w b (.map ((l++[(g+1,c)]).map mEnt).toArray (g+1))):=by
 obtain⟨a,h1,h2,_⟩:=find_now ((g+1:Nat):Int) l 0;have h3:=run_findKey (P:=P) (w:=w) hk h1;rw[hf]at h2
 obtain rfl:a=none:=by cases a with|none=>rfl|some q=>simp at h2
 rw[show((g+1:Nat):Int)=(g:Int)+1 from by omega]at h3;simp[Instr.mapUpdate,run_underlying ht,Go.MapKept.run_getObj_map (show w.heap[b]?=some (.map (l.map mEnt).toArray g)from h),run_checkKey hk key_int,h3,Go.MapKept.run_setObj_map _ (show w.heap[b]?=some (.map (l.map mEnt).toArray g)from h),Result.andThen,setBlock,mEnt]
theorem MapL.set_ (h:MapL w b g l)(l':List (Nat×Nat))(g':Nat):MapL (setBlock w b (.map (l'.map mEnt).toArray g')) b g' l':=heap_setBlock_same h _
end
end
end Go.Proofs.YtchlkhkeonnmdacGreatDoor
