/- A call that is caught; what comes behind an entry; an iterator's cursor: by their contracts. No statement of the claim. -/
import Derived.Test.YtgiaobmcbbfmnaaGreatDoorErrs
import Derived.Test.YtgiaobmcbbfmnaaGreatDoorKit2
import Derived.Test.YtgiaobmcbbfmnaaGreatDoorSqT
import Derived.Test.YtgiaobmcbbfmnaaGreatDoorSq
import Derived.Defers
import Derived.Recover
import Derived.MapKept
import Derived.ChangeMaps5
import Derived.WideLaws
import Derived.Test.YtgiaobmcbbfmnaaGreatDoorSnP
import Derived.BigRegion
namespace Go.Proofs.YtgiaobmcbbfmnaaGreatDoor
set_option maxRecDepth 100000
set_option maxHeartbeats 4000000
open Go.RowKit dw Go.MapKept
open Go.ChangeMaps (setBlock heap_setBlock_same heap_setBlock_other)
open Go.ChangeMaps (setBlock)
section
structure gy where
 hash:Nat
 key:Nat
 done:Bool
def behind (hash key:Nat):gy:=if key<18446744073709551615 then⟨hash,key+1,false⟩else if hash<18446744073709551615 then⟨hash+1,0,false⟩else⟨0,0,true⟩
def gy.ok (c:gy):Prop:=c.hash<18446744073709551616∧c.key<18446744073709551616
def gy.cells (c:gy):Array Value:= #[.int .u64 (c.key:Int),.int .u64 0,.int .u64 (c.hash:Int),.bool c.done]
def fC (w:World)(b:Nat)(c:gy):Prop:=aj w b 183 c.cells
theorem fC.blk {w:World}{b:Nat}{c:gy}(h:fC w b c):aj w b 183 #[.int .u64 (c.key:Int),.int .u64 0,.int .u64 (c.hash:Int),.bool c.done]:=h
theorem fC.lt {w:World}{b:Nat}{c:gy}(h:fC w b c):b<w.heap.size:=aj.lt h
theorem fC.mod {S:List Nat}{w w':World}{b:Nat}{c:gy}(h:fC w b c)(hm:Mod S w w')(hb:b∉S):fC w' b c:=aj.mod h hm hb
instance {w w':World}{b:Nat}{c:gy}:Md (fC w b c) w w' (fC w' b c) (fun S=>b∉S):=⟨fun h hm hs=>fC.mod h hm hs⟩
theorem Ut (p:Addr)(w:World):
  CallsD Tryz.prog 67 #[.pointer (some p)] .returning w fun e u' w'=>e= .returned (.tuple #[])∧u'= .returning∧w'=w:=by
 refine callsD_of_wpS Tryz.func67 rfl fun c₀ cs hu=> ?_;apply wpS_seq;apply wpS_region;simp[wpOpsS,go_sem,recoverD,hu,Tryz.ntmps67,Exit.thenS];refine wpS_of_wp ?_;go_wp2;cases c₀
 simp_all[bodyPostS,results,Tryz.results67]
theorem abK (d:Nat)(fn:Fn)(a b:Array Value)(w:World):(Op.equalIn (d+1) 1 (.func fn a b) .nilFunc).run Tryz.prog w= .ok false w:=by simp[Op.equalIn,run_underlying Tryz.underlying1]
theorem adC (fn:Fn)(a b:Array Value)(w:World):(Op.equal 1 (.func fn a b) .nilFunc).run Tryz.prog w= .ok false w:=abK 9999 fn a b w
theorem Jo {S:List Nat}{K:World→Prop}(G:FuncId)(cap:Array Value)(w:World)(hG:∀W:World,(callFunc G cap).run Tryz.prog W= .ok (.enter G cap) W)(hS:w.heap.size∉S)
  (hc:Calls Tryz.prog G cap (w.alloc (.cells #[.nilIface] 27)) fun e w1=>e= .returned (.tuple #[])∧Mod S (w.alloc (.cells #[.nilIface] 27)) w1∧K w1):
  Calls Tryz.prog 36 #[.func (.func G) #[] cap] w fun e w1=>e= .returned .nilIface∧Mod S (w.alloc (.cells #[.nilIface] 27)) w1∧K w1:=by
 have pX:∀(fn:Fn) (first cap:Array Value) (w:World),(Instr.makeFunc fn first cap).run Tryz.prog w= .ok (.func fn first cap) w:=fun _ _ _ _=>rfl
 have hq:∀W:World,(binOp .eql 1 (.func (.func G) #[] cap) .nilFunc).run Tryz.prog W= .ok (.bool false) W:=fun W=>by
  simp only[binOp];simp[adC]
 have HC:=qd hc;clear hc;go_enter_defers Tryz.func36,Tryz.ntmps36;go_wp2_with fail;refine HC.out.mono ?_;rintro y w1 ⟨rfl,hm,hk⟩;have hB:=(aj.new w 27 #[.nilIface]).mod hm hS;have hid:=hB.Bo (i:=0) (u:= .nilIface) rfl;have c0:=hB.cell 0;have f0:=hB.frozen 0;simp only[List.getElem?_toArray,List.getElem?_cons_zero]at c0;have HI:=qd hid;have HM:=qd hm;have HK:=qd hk;clear hB hid hm hk HC;go_wp2;rw[HI.out];refine leaves_cons (f:=67) (args:= #[.pointer (some ⟨w.heap.size,0,none⟩)]) (by simp) (by simp[go_sem]) ?_;refine(Ut ⟨w.heap.size,0,none⟩ _).mono ?_;rintro e u' w2 ⟨rfl,rfl,rfl⟩;simp[Leaves,settle,results,Tryz.results36,go_sem,c0];exact⟨HM.out,HK.out⟩
theorem FN (e:ay)(hk:e.key<18446744073709551616)(hh:e.hash<18446744073709551616)(w:World):Calls Tryz.prog 138 #[aW e] w fun y w'=>y= .returned (.tuple #[.int .u64 ((behind e.hash e.key).hash:Int),.int .u64 ((behind e.hash e.key).key:Int),.bool (!(behind e.hash e.key).done)])∧Below w.heap.size w w':=by
 have hB:=(Below.refl w.heap.size w).alloc (Nat.le_refl _) (.cells #[.int .u64 (e.key:Int),.int .u64 (e.val:Int),.int .u64 (e.hash:Int)] 153);have hE:=aj.new w 153 #[.int .u64 (e.key:Int),.int .u64 (e.val:Int),.int .u64 (e.hash:Int)];obtain⟨W,hW⟩:∃W,W=w.alloc (.cells #[.int .u64 (e.key:Int),.int .u64 (e.val:Int),.int .u64 (e.hash:Int)] 153):=⟨_,rfl⟩;rw[←hW]at hB hE;have c0:=hE.cell 0;have c2:=hE.cell 2;simp only[gl]at c0 c2;have HW:=qd hW;have HB:=qd hB;clear hW hB hE;unfold aW behind;by_cases h1:e.key<18446744073709551615
 ·rw[if_pos h1]
  have hlt:(e.key:Int)<18446744073709551615:=by omega
  have hw:IntKind.u64.wrap ((e.key:Int)+1)=((e.key+1:Nat):Int):=by rw[IntKind.wrap_u64];omega
  go_in;go_upto_region 1 with fail;rw[←HW.out];go_upto_region 2 with fail;go_region;go_wp2;refine bodyPost_ret (v:= .tuple #[.int .u64 (e.hash:Int),.int .u64 ((e.key+1:Nat):Int),.bool true]) (by simp[results,Tryz.results138,go_sem]) rfl ⟨rfl,HB.out.drew⟩
 ·have hlt:¬(e.key:Int)<18446744073709551615:=by omega
  rw[if_neg h1];by_cases h2:e.hash<18446744073709551615
  ·rw[if_pos h2]
   have hlt2:(e.hash:Int)<18446744073709551615:=by omega
   have hw:IntKind.u64.wrap ((e.hash:Int)+1)=((e.hash+1:Nat):Int):=by rw[IntKind.wrap_u64];omega
   go_in;go_upto_region 1 with fail;rw[←HW.out];go_wp2;refine bodyPost_ret (v:= .tuple #[.int .u64 ((e.hash+1:Nat):Int),.int .u64 0,.bool true]) (by simp[results,Tryz.results138,go_sem]) rfl ⟨rfl,HB.out⟩
  ·rw[if_neg h2]
   have hlt2:¬(e.hash:Int)<18446744073709551615:=by omega
   go_in;go_upto_region 1 with fail;rw[←HW.out];go_wp2;refine bodyPost_ret (v:= .tuple #[.int .u64 0,.int .u64 0,.bool false]) (by simp[results,Tryz.results138,go_sem]) rfl ⟨rfl,HB.out⟩
theorem Uu (w:World):Calls Tryz.prog 57 #[] w fun y w'=>y= .returned (.pointer (some ⟨w.heap.size,0,none⟩))∧fC w' w.heap.size ⟨0,0,false⟩∧Below w.heap.size w w':=by
 go_in;go_wp2;go_ret;exact⟨rfl,aj.new _ _ _,(Below.refl _ _).alloc (Nat.le_refl _) _⟩
section
variable {w : World} {b : Nat} {c : gy}
theorem Xt (h:fC w b c):Calls Tryz.prog 90 #[.pointer (some ⟨b,0,none⟩)] w fun y w'=>y= .returned (.tuple #[.int .u64 (c.hash:Int),.int .u64 (c.key:Int)])∧Below w.heap.size w w':=by
 have c0:=h.blk.cell 0;have c2:=h.blk.cell 2;simp only[gl]at c0 c2;clear h;go_in;go_upto_region 1 with fail;go_region;go_wp2;refine bodyPost_ret (v:= .tuple #[.int .u64 (c.hash:Int),.int .u64 (c.key:Int)]) (by simp[results,Tryz.results90,go_sem]) rfl ⟨rfl,(Below.refl _ _).drew⟩
theorem FP (h:fC w b c):Calls Tryz.prog 60 #[.pointer (some ⟨b,0,none⟩)] w fun y w'=>y= .returned (.bool c.done)∧w=w':=by
 have c3:=h.blk.cell 3;simp only[gl]at c3;clear h;go_in;go_wp2;go_ret;exact⟨rfl,rfl⟩
theorem Uv (h:fC w b c):Calls Tryz.prog 199 #[.pointer (some ⟨b,0,none⟩)] w fun y w'=>y= .returned undef∧fC w' b ⟨0,0,true⟩∧Mod [b] w w':=by
 obtain⟨c0,c1,c2,c3⟩:=h.blk.c4;obtain⟨f0,f1,f2,f3⟩:=h.blk.f4;have hn:=(((h.blk.ak 0 (.int .u64 0)).ak 1 (.int .u64 0)).ak 2 (.int .u64 0)).ak 3 (.bool true);simp only[pt]at hn;have HN:=qd (And.intro hn (((((Mod.refl [b] w).sl 0 (.int .u64 0)).sl 1 (.int .u64 0)).sl 2 (.int .u64 0)).sl 3 (.bool true)));clear h hn;go_in;go_wp2;go_end0;exact⟨rfl,HN.out⟩
theorem MU (h:fC w b c)(hd:c.done=false)(e:ay):Calls Tryz.prog 136 #[.pointer (some ⟨b,0,none⟩),aW e] w fun y w'=>y= .returned (.bool (bg e ⟨c.key,0,c.hash⟩))∧Below w.heap.size w w':=by
 have hB:=(Below.refl w.heap.size w).alloc (Nat.le_refl _) (.cells #[.int .u64 (e.key:Int),.int .u64 (e.val:Int),.int .u64 (e.hash:Int)] 153);have hE:=aj.new w 153 #[.int .u64 (e.key:Int),.int .u64 (e.val:Int),.int .u64 (e.hash:Int)];obtain⟨W,hW⟩:∃W,W=w.alloc (.cells #[.int .u64 (e.key:Int),.int .u64 (e.val:Int),.int .u64 (e.hash:Int)] 153):=⟨_,rfl⟩;rw[←hW]at hB hE;have hC:fC W b c:=h.mod (Mod.of_below hB []) (by simp);obtain⟨c0,c1,c2,c3⟩:=hC.blk.c4;rw[hd]at c3;obtain⟨e0,e1,e2⟩:=hE.c3;have HL:=qd (fun V=>jU e ⟨c.key,0,c.hash⟩ V);have HW:=qd hW;have HB:=qd hB;unfold aW at HL⊢;simp only[Int.natCast_zero]at HL;clear hW hB hE hC h;go_in;go_upto_region 1 with fail;rw[←HW.out];refine rT (fun(w':World)=>w'.cell? ⟨w.heap.size,0,none⟩=some (.int .u64 (e.key:Int))∧w'.cell? ⟨w.heap.size,1,none⟩=some (.int .u64 (e.val:Int))∧w'.cell? ⟨w.heap.size,2,none⟩=some (.int .u64 (e.hash:Int))∧w'.cell? ⟨b,0,none⟩=some (.int .u64 (c.key:Int))∧w'.cell? ⟨b,1,none⟩=some (.int .u64 0)∧w'.cell? ⟨b,2,none⟩=some (.int .u64 (c.hash:Int))∧w'.cell? ⟨b,3,none⟩=some (.bool false)) [10] ?_;have hHeld:=(⟨e0,e1,e2,c0,c1,c2,c3⟩:_∧_∧_∧_∧_∧_∧_);refine vW 0 rfl ?_;refine vW 1 rfl ?_;refine vW 2 rfl ?_;refine vT 3 rfl ?_;refine vW 4 rfl ?_;refine vT 5 rfl ?_;refine vW 6 rfl ?_;refine vW 7 rfl ?_;refine vW 8 rfl ?_;refine vT 9 rfl ?_;refine nT 10 rfl fun K hK=> ?_;go_simp;refine(HL.out _).mono ?_;rintro y W1 ⟨rfl,hb⟩;replace hb:Below W.heap.size W W1:=bQ hb (Below.refl _ _).drew
 replace HB:=qd (bQ hb HB.out);clear hb;go_wp2_with fail;refine kO hK ?_;clear hK K;refine vL 11 rfl ?_;refine vL 12 rfl ?_;refine aT (by kernel_rfl) ?_ _;go_wp2;go_ret;exact⟨rfl,HB.out⟩
theorem FQ (h:fC w b c)(c':gy)(hd:c.done=false)(h0:c'.done=true→c'=⟨0,0,true⟩):Calls Tryz.prog 137 #[.pointer (some ⟨b,0,none⟩),.int .u64 (c'.hash:Int),.int .u64 (c'.key:Int),.bool (!c'.done)] w fun y w'=>y= .returned undef∧fC w' b c'∧Mod [b] w w':=by
 have HE:=qd (Uv h);obtain⟨c0,c1,c2,c3⟩:=h.blk.c4;obtain⟨f0,f1,f2,f3⟩:=h.blk.f4;have hn:=((h.blk.ak 0 (.int .u64 (c'.key:Int))).ak 1 (.int .u64 0)).ak 2 (.int .u64 (c'.hash:Int));simp only[pt]at hn;have HN:=qd (And.intro hn ((((Mod.refl [b] w).sl 0 (.int .u64 (c'.key:Int))).sl 1 (.int .u64 0)).sl 2 (.int .u64 (c'.hash:Int))));clear h hn
 cases hc:c'.done with
 |true=>
  have:=h0 hc;subst this;go_in;go_wp2_with fail;refine HE.out.mono ?_;rintro y w1 ⟨rfl,hC,hm⟩;go_wp2;refine bodyPost_ret (results_none rfl _ _ _) rfl ?_;exact⟨rfl,hC,hm⟩
 |false=>
  have HD:=qd hd;have HQ:=qd hc;clear hd hc h0;go_in;go_wp2;go_end0;refine⟨rfl, ?_,HN.out.2⟩;have h1:=HN.out.1;unfold fC gy.cells;rw[HQ.out];rw[HD.out]at h1;exact h1
theorem Jp {h k:Nat}(hd:(behind h k).done=true):behind h k=⟨0,0,true⟩:=by
 unfold behind at hd⊢;split
 ·rename_i h1;rw[if_pos h1]at hd;cases hd
 ·rename_i h1;rw[if_neg h1]at hd;split
  ·rename_i h2;rw[if_pos h2]at hd;cases hd
  ·rfl
theorem Ra (h:fC w b c)(hd:c.done=false)(e:ay)(hk:e.key<18446744073709551616)(hh:e.hash<18446744073709551616)(hl:bg e ⟨c.key,0,c.hash⟩=false):Calls Tryz.prog 92 #[.pointer (some ⟨b,0,none⟩),aW e] w fun y w'=>y= .returned .nilIface∧fC w' b (behind e.hash e.key)∧Mod [b] w w':=by
 have hB:=(Below.refl w.heap.size w).alloc (Nat.le_refl _) (.cells #[.int .u64 (e.key:Int),.int .u64 (e.val:Int),.int .u64 (e.hash:Int)] 153);have hE:=aj.new w 153 #[.int .u64 (e.key:Int),.int .u64 (e.val:Int),.int .u64 (e.hash:Int)];obtain⟨W,hW⟩:∃W,W=w.alloc (.cells #[.int .u64 (e.key:Int),.int .u64 (e.val:Int),.int .u64 (e.hash:Int)] 153):=⟨_,rfl⟩;rw[←hW]at hB hE;have hC:fC W b c:=h.mod (Mod.of_below hB []) (by simp);have Au:=qd (MU hC hd e);rw[hl]at Au;have Sd:=qd (fun V=>FN e hk hh V);have HC:=qd hC;have HE:=qd hE;have HW:=qd hW;have HB:=qd hB;have HD:=qd hd;obtain⟨e0,e1,e2⟩:=hE.c3;unfold aW at Au Sd⊢;clear hW hB hE hC h hd hl;go_in;go_upto_region 1 with fail;rw[←HW.out];go_wp2_with fail;refine Au.out.mono ?_;rintro y w1 ⟨rfl,hb⟩;replace HC:=qB hb HC;replace HE:=qB hb HE;replace HB:=qd (bQ hb HB.out);clear hb Au e0 e1 e2;obtain⟨e0,e1,e2⟩:=HE.out.c3;go_wp2_with fail;refine(Sd.out _).mono ?_;rintro y w2 ⟨rfl,hb⟩;replace HC:=qB hb HC;replace HB:=qd (bQ hb HB.out);clear hb Sd e0 e1 e2;have HM:=qd (FQ HC.out (behind e.hash e.key) HD.out Jp);go_wp2_with fail;refine HM.out.mono ?_;rintro y w3 ⟨rfl,Cw,hm⟩;have lT:=qd Cw;have NN:=qd ((Mod.of_below HB.out [b]).then hm);clear Cw hm;go_wp2;go_ret;exact⟨rfl,lT.out,NN.out⟩
theorem Rb (h:fC w b c)(hd:c.done=false)(high:Nat)(hh:high<18446744073709551616)(hl:c.hash≤high):Calls Tryz.prog 93 #[.pointer (some ⟨b,0,none⟩),.int .u64 (high:Int)] w fun y w'=>y= .returned .nilIface∧fC w' b (behind high 18446744073709551615)∧Mod [b] w w':=by
 have c2:=h.blk.cell 2;have c3:=h.blk.cell 3;simp only[gl]at c2 c3;rw[hd]at c3
 have hle:¬(high:Int)<(c.hash:Int):=by omega
 have Sd:=qd (show∀V,Calls Tryz.prog 138 #[.agg #[.int .u64 18446744073709551615,.int .u64 0,.int .u64 (high:Int)]] V _ from fun V=>FN ⟨18446744073709551615,0,high⟩ (by simp only;omega) hh V);have HC:=qd h;have HD:=qd hd;clear h hd hl;go_in;go_wp2_with fail;refine(Sd.out _).mono ?_;rintro y w2 ⟨rfl,hb⟩;replace HC:=qB hb HC;have HB:=qd hb;clear hb Sd c2 c3;have HM:=qd (FQ HC.out (behind high 18446744073709551615) HD.out Jp);go_wp2_with fail;refine HM.out.mono ?_;rintro y w3 ⟨rfl,Cw,hm⟩;have lT:=qd Cw;have NN:=qd ((Mod.of_below HB.out [b]).then hm);clear Cw hm;go_wp2;go_ret;exact⟨rfl,lT.out,NN.out⟩
end
end
section
def ny (p:Nat×Nat):MapEntry:=⟨.int .i64 (p.1:Int),.pointer (some ⟨p.2,0,none⟩),p.1-1⟩
def iV (w:World)(b g:Nat)(l:List (Nat×Nat)):Prop:=w.heap[b]?=some (.map (l.map ny).toArray g)
def nA (l:List (Nat×Nat))(x:Int):Option Nat:=(l.find? fun p=>decide ((p.1:Int)=x)).map Prod.snd
def Uw (o:Option Nat):Value:= .pointer (o.map fun b=>⟨b,0,none⟩)
section
variable {P : Program} {w w' : World} {b g : Nat} {l : List (Nat × Nat)} {t k e : TypeId}
theorem iV.lt (h:iV w b g l):b<w.heap.size:=(Array.getElem?_eq_some_iff.1 h).1
theorem iV.mod {S:List Nat}(h:iV w b g l)(hm:Mod S w w')(hb:b∉S):iV w' b g l:=(hm.block b h.lt hb).trans h
instance {w w':World}{b g:Nat}{l:List (Nat×Nat)}:Md (iV w b g l) w w' (iV w' b g l) (fun S=>b∉S):=⟨fun h hm hs=>iV.mod h hm hs⟩
theorem iV.new (w:World):iV (w.alloc (.map #[] 0)) w.heap.size 0 []:=by
 exact heap_alloc_new w _
theorem BR (x:Int):∀(l:List (Nat×Nat)) (i:Nat),∃a,Instr.findNow (.int .i64) (.int .i64 x) (l.map ny) i=some a∧a.map Prod.snd=(nA l x).map (fun b=>Value.pointer (some ⟨b,0,none⟩))∧∀p,a=some p→∃j,p.1=i+j∧(l.map Prod.fst)[j]?.map (fun n:Nat=>(n:Int))=some x
 | [],_=>⟨none,rfl,rfl,fun _ h=>by cases h⟩
 |p::l,i=>by
  by_cases hp:(p.1:Int)=x
  ·refine⟨some (i,.pointer (some ⟨p.2,0,none⟩)), ?_, ?_,fun q hq=> ?_⟩
   ·subst hp;simp[Instr.findNow,Instr.sameNow,ny]
   ·unfold nA;rw[List.find?_cons_of_pos (by simpa using hp)];rfl
   ·cases hq;exact⟨0,rfl,by simp[hp]⟩
  ·obtain⟨a,h1,h2,h3⟩:=BR x l (i+1);refine⟨a, ?_, ?_,fun q hq=> ?_⟩
   ·have:((x==(p.1:Int))=false):=by simpa using fun h=>hp h.symm
    simp[Instr.findNow,Instr.sameNow,ny,this]at h1⊢;exact h1
   ·unfold nA at h2⊢;rw[List.find?_cons_of_neg (by simpa using hp)];exact h2
   ·obtain⟨j,h4,h5⟩:=h3 q hq;exact⟨j+1,by omega,by simpa using h5⟩
theorem EH {x:Int}:IsKey (.int .i64) (.int .i64 x):=by simp[IsKey]
theorem iV.look (h:iV w b g l)(ht:P.underlying t=some (.map k e))(hk:P.underlying k=some (.int .i64))(hz:(zeroValue e).run P w= .ok (.pointer none) w)(x:Int):
  (Instr.lookup t (.map (some b)) (.int .i64 x) true).run P w= .ok (.tuple #[Uw (nA l x),.bool (nA l x).isSome]) w:=by
 obtain⟨a,h1,h2,_⟩:=BR x l 0;have h3:=run_findKey (P:=P) (w:=w) hk h1
 cases hf:nA l x with
 |none=>
  rw[hf]at h2
  obtain rfl:a=none:=by cases a with|none=>rfl|some q=>simp at h2
  simp[Instr.lookup,run_underlying ht,Go.MapKept.run_getObj_map (show w.heap[b]?=some (.map (l.map ny).toArray g)from h),run_checkKey hk EH,h3,hz,Result.andThen,Uw]
 |some c=>
  rw[hf]at h2
  cases a with
  |none=>simp at h2
  |some q=>
   obtain⟨i,v⟩:=q;simp at h2;subst h2;simp[Instr.lookup,run_underlying ht,Go.MapKept.run_getObj_map (show w.heap[b]?=some (.map (l.map ny).toArray g)from h),run_checkKey hk EH,h3,Result.andThen,Uw]
theorem BS {x:Int}:nA l x=none↔∀p∈l,(p.1:Int)≠x:=by
 unfold nA;rw[Option.map_eq_none_iff,List.find?_eq_none];simp
theorem Xu {x:Int}{c:Nat}(h:nA l x=some c):∃n:Nat,(n,c)∈l∧(n:Int)=x:=by
 unfold nA at h;rw[Option.map_eq_some_iff]at h;obtain⟨p,h1,rfl⟩:=h;have h2:=List.find?_some h1;exact⟨p.1,List.mem_of_find?_eq_some h1,by simpa using h2⟩
theorem iV.Ej (h:iV w b g l)(o:Obj):Mod [b] w (setBlock w b o):=⟨rfl,rfl,rfl,by simp[setBlock],fun k _ hn=>heap_setBlock_other h o (by simpa using hn)⟩
theorem iV.put (h:iV w b g l)(ht:P.underlying t=some (.map k e))(hk:P.underlying k=some (.int .i64))(hf:nA l ((g+1:Nat):Int)=none)(c:Nat):
  (Instr.mapUpdate t (.map (some b)) (.int .i64 ((g+1:Nat):Int)) (.pointer (some ⟨c,0,none⟩))).run P w= .ok () (setBlock w b (.map ((l++[(g+1,c)]).map ny).toArray (g+1))):=by
 obtain⟨a,h1,h2,_⟩:=BR ((g+1:Nat):Int) l 0;have h3:=run_findKey (P:=P) (w:=w) hk h1;rw[hf]at h2
 obtain rfl:a=none:=by cases a with|none=>rfl|some q=>simp at h2
 rw[show((g+1:Nat):Int)=(g:Int)+1 from by omega]at h3;simp[Instr.mapUpdate,run_underlying ht,Go.MapKept.run_getObj_map (show w.heap[b]?=some (.map (l.map ny).toArray g)from h),run_checkKey hk EH,h3,Go.MapKept.run_setObj_map _ (show w.heap[b]?=some (.map (l.map ny).toArray g)from h),Result.andThen,setBlock,ny]
theorem iV.ak (h:iV w b g l)(l':List (Nat×Nat))(g':Nat):iV (setBlock w b (.map (l'.map ny).toArray g')) b g' l':=heap_setBlock_same h _
end
end
section
variable {cb id : Nat} {c : gy}
structure It where
 id:Nat
 cb:Nat
 c:gy
def bI (ib mb:Nat)(its:List It):List Nat:=ib::mb::its.map It.cb
def gH (its:List It):List (Nat×Nat):=its.map fun i=>(i.id,i.cb)
structure gI (w:World)(ib mb most given:Nat)(its:List It):Prop where
 blk:aj w ib 131 #[.int .i64 (most:Int),.int .i64 (given:Int),.map (some mb)]
 map:iV w mb given (gH its)
 cur:∀i∈its,fC w i.cb i.c
 ids:∀i∈its,1≤i.id∧i.id≤given
 nd:(its.map It.id).Nodup
 nf:(bI ib mb its).Nodup
 few:most≤8∧its.length≤most
section
variable {w w' : World} {ib mb most given : Nat} {its : List It}
theorem gI.gJ (h:gI w ib mb most given its):∀q∈bI ib mb its,q<w.heap.size:=by
 intro q hq;unfold bI at hq;rcases List.mem_cons.1 hq with rfl|hq
 ·exact h.blk.lt
 ·rcases List.mem_cons.1 hq with rfl|hq
  ·exact h.map.lt
  ·obtain⟨i,hi,rfl⟩:=List.mem_map.1 hq;exact(h.cur i hi).lt
theorem gI.mod {S:List Nat}(h:gI w ib mb most given its)(hm:Mod S w w')(hS:∀q∈bI ib mb its,q∉S):gI w' ib mb most given its:=
 ⟨h.blk.mod hm (hS _ (by simp[bI])),h.map.mod hm (hS _ (by simp[bI])),fun i hi=>(h.cur i hi).mod hm (hS _ (by simp only[bI,List.mem_cons];exact .inr (.inr (List.mem_map_of_mem hi)))),h.ids,h.nd,h.nf,h.few⟩
instance {w w':World}{ib mb most given:Nat}{its:List It}:Md (gI w ib mb most given its) w w' (gI w' ib mb most given its) (fun S=>∀q∈bI ib mb its,q∉S):=⟨fun h hm hs=>gI.mod h hm hs⟩
theorem gI.below (h:gI w ib mb most given its)(hb:Below w.heap.size w w'):gI w' ib mb most given its:=h.mod (Mod.of_below hb []) (by simp)
end
theorem abL (w:World):(zeroValue 132).run Tryz.prog w= .ok (.pointer none) w:=by kernel_rfl
theorem Xv {w:World}{b g:Nat}{l:List (Nat×Nat)}(h:iV w b g l)(ty:TypeId):(Builtin.len_ #[129] ty #[.map (some b)]).run Tryz.prog w= .ok (.int .i64 (l.length:Int)) w:=by
 have:=run_len_map (P:=Tryz.prog) w 129 ty b _ g (by kernel_rfl) (show w.heap[b]?=some (.map (l.map ny).toArray g)from h);rw[this];simp[goInt]
theorem Xw (n:Nat)(hn:1≤n∧n≤8)(w:World):Calls Tryz.prog 29 #[.int .i64 (n:Int)] w fun y w'=>y= .returned (.tuple #[.pointer (some ⟨(w.heap.size+1),0,none⟩),.nilIface])∧gI w' (w.heap.size+1) w.heap.size n 0 []∧Below w.heap.size w w':=by
 have h1:¬(n:Int)<1:=by omega
 have h2:¬(n:Int)>8:=by omega
 have hm:∀W:World,(Instr.makeMap 129 none).run Tryz.prog W= .ok (.map (some W.heap.size)) (W.alloc (.map #[] 0)):=fun _=>rfl;have HN:=qd hn;clear hn;go_in;go_wp2;refine bodyPost_ret (v:= .tuple #[.pointer (some ⟨(w.heap.size+1),0,none⟩),.nilIface]) (by simp[results,Tryz.results29,go_sem]) rfl ⟨rfl, ?_, ?_⟩
 ·exact⟨by simpa using aj.new (w.alloc (.map #[] 0)) 131 #[.int .i64 (n:Int),.int .i64 0,.map (some w.heap.size)],(iV.new w).mod (Mod.of_below ((Below.refl _ _).alloc (Nat.le_refl _) _) []) (by simp),by simp,by simp,by simp,by simp[bI],by have:=HN.out;simp;omega⟩
 ·exact((Below.refl _ _).alloc (Nat.le_refl _) _).alloc (by simp) _
section
variable {w : World} {ib mb most given : Nat} {its : List It}
theorem yR {its:List It}(hn:(its.map It.id).Nodup){i j:It}(hi:i∈its)(hj:j∈its)(h:i.id=j.id):i=j:=by
 induction its with
 |nil=>cases hi
 |cons x l ih=>
  rw[List.map_cons,List.nodup_cons]at hn;rcases List.mem_cons.1 hi with h1|h1
  ·rcases List.mem_cons.1 hj with h2|h2
   ·rw[h1,h2]
   ·exact absurd (show x.id∈l.map It.id from by rw[←h1,h];exact List.mem_map_of_mem h2) hn.1
  ·rcases List.mem_cons.1 hj with h2|h2
   ·exact absurd (show x.id∈l.map It.id from by rw[←h2,←h];exact List.mem_map_of_mem h1) hn.1
   ·exact ih hn.2 h1 h2
theorem Z4 (hn:(its.map It.id).Nodup)(h:⟨id,cb,c⟩∈its):nA (gH its) (id:Int)=some cb:=by
 cases hf:nA (gH its) (id:Int)with
 |none=>
  exact absurd rfl (BS.1 hf (id,cb) (List.mem_map.2 ⟨_,h,rfl⟩))
 |some cb'=>
  obtain⟨n,h1,h2⟩:=Xu hf;obtain⟨i,h3,h4⟩:=List.mem_map.1 h1;obtain⟨h5,h6⟩:=Prod.mk.inj h4
  have hid:i.id=id:=by omega
  have:i=⟨id,cb,c⟩:=by
   exact yR hn h3 h hid
  rw[this]at h6;exact congrArg some h6.symm
theorem Qf (h:gI w ib mb most given its)(hi:⟨id,cb,c⟩∈its):Calls Tryz.prog 59 #[.pointer (some ⟨ib,0,none⟩),.int .i64 (id:Int)] w fun y w'=>y= .returned (.tuple #[.pointer (some ⟨cb,0,none⟩),.nilIface])∧w=w':=by
 have hl:=h.map.look (P:=Tryz.prog) (t:=129) Tryz.underlying129 Tryz.underlying3 (abL _) (id:Int);rw[Z4 h.nd hi]at hl;obtain⟨c0,c1,c2⟩:=h.blk.c3;unfold Uw at hl;simp only[Option.map_some,Option.isSome_some]at hl;clear h hi;go_in;go_wp2;refine bodyPost_ret (v:= .tuple #[.pointer (some ⟨cb,0,none⟩),.nilIface]) (by simp[results,Tryz.results59,go_sem]) rfl ⟨rfl,rfl⟩
theorem gI.opened {w2:World}(h:gI w ib mb most given its)(hlt:its.length<most)(hb:aj w2 ib 131 #[.int .i64 (most:Int),.int .i64 ((given:Int)+1),.map (some mb)])(hm:iV w2 mb (given+1) (gH its++[(given+1,cb)]))(hc:fC w2 cb ⟨0,0,false⟩)(hcb:w.heap.size≤cb)(hmod:Mod [ib,mb] w w2):gI w2 ib mb most (given+1) (its++[⟨given+1,cb,⟨0,0,false⟩⟩]):=by
 have hl:=h.gJ;have hnf:=h.nf
 have aex:∀i∈its,i.cb∉[ib,mb]:=fun i hi=>by
  unfold bI at hnf;rw[List.nodup_cons,List.nodup_cons]at hnf;have:=List.mem_map_of_mem (f:=It.cb) hi;intro hh;rcases List.mem_cons.1 hh with e|e
  ·exact hnf.1 (List.mem_cons_of_mem _ (e▸this))
  ·exact hnf.2.1 (List.mem_singleton.1 e▸this)
 refine⟨hb,by unfold gH at hm⊢;rw[List.map_append];exact hm,fun i hi=> ?_,fun i hi=> ?_, ?_, ?_,h.few.1,by rw[List.length_append];simp;omega⟩
 ·rcases List.mem_append.1 hi with hi|hi
  ·exact(h.cur i hi).mod hmod (aex i hi)
  ·rw[List.mem_singleton.1 hi];exact hc
 ·rcases List.mem_append.1 hi with hi|hi
  ·have:=h.ids i hi;omega
  ·rw[List.mem_singleton.1 hi];simp
 ·rw[List.map_append,List.nodup_append];refine⟨h.nd,by simp,fun a ha b hb=> ?_⟩;obtain⟨i,hi,rfl⟩:=List.mem_map.1 ha;have:=h.ids i hi;simp at hb;omega
 ·have:bI ib mb (its++[⟨given+1,cb,⟨0,0,false⟩⟩])=bI ib mb its++[cb]:=by simp[bI]
  rw[this,List.nodup_append];refine⟨h.nf,by simp,fun a ha b hb=> ?_⟩;have:=hl a ha;simp at hb;omega
theorem Ux (h:gI w ib mb most given its)(hlt:its.length<most)(hg:given≤100000):Calls Tryz.prog 30 #[.pointer (some ⟨ib,0,none⟩)] w fun y w'=>∃cb,w.heap.size≤cb∧y= .returned (.tuple #[.int .i64 ((given+1:Nat):Int),.nilIface])∧gI w' ib mb most (given+1) (its++[⟨given+1,cb,⟨0,0,false⟩⟩])∧Mod [ib,mb] w w':=by
 obtain⟨c0,c1,c2⟩:=h.blk.c3;have f1:=h.blk.frozen 1;have hl:=Xv (h.map.mod (Mod.of_below (Below.refl w.heap.size w).drew []) (by simp)) 3
 have hll:(gH its).length=its.length:=by simp[gH]
 rw[hll]at hl
 have hlt':¬(its.length:Int)≥(most:Int):=by omega
 have hw1:IntKind.i64.wrap ((given:Int)+1)=((given+1:Nat):Int):=by rw[IntKind.wrap_i64];omega
 have hnew:=((h.blk.ak 1 (.int .i64 ((given:Int)+1)))).drew;have hm:=(((Mod.refl [ib] w).sl 1 (.int .i64 ((given:Int)+1)))).then (Mod.of_below (Below.refl _ _).drew [ib]);simp only[pt]at hnew
 have Xx:mb∉[ib]:=fun hh=>by have:=h.nf;unfold bI at this;rw[List.nodup_cons]at this;exact this.1 (by rw[List.mem_singleton.1 hh];simp)
 have lq:=qd (And.intro hnew (And.intro hm (h.map.mod hm Xx)));have HH:=qd h;have HLt:=qd hlt;have HMi:=qd Xx;clear h hnew hm Xx hlt;go_in;go_upto_region 1 with fail;go_region;go_upto_region 4 with fail;refine dI (F:=fun v=>aj v ib 131 #[.int .i64 (most:Int),.int .i64 ((given:Int)+1),.map (some mb)]∧Mod [ib] w v∧iV v mb given (gH its)) lq.out ?_;clear lq c0 c1 c2 f1 hl hll;rintro W ⟨hb,hm,hmp⟩;have HB:=qd hb;have HM:=qd hm;have HP:=qd hmp;clear hb hm hmp;have c1:=HB.out.cell 1;have c2:=HB.out.cell 2;simp only[gl]at c1 c2;refine rT (fun(w':World)=>w'.cell? ⟨ib,1,none⟩=some (.int .i64 ((given:Int)+1))∧w'.cell? ⟨ib,2,none⟩=some (.map (some mb))) [9] ?_;have hHeld:=(⟨c1,c2⟩:_∧_);refine vW 0 rfl ?_;refine vW 1 rfl ?_;refine vW 2 rfl ?_;refine vT 3 rfl ?_;refine vW 4 rfl ?_;refine vW 5 rfl ?_;refine vW 6 rfl ?_;refine vT 7 rfl ?_;refine nT 8 rfl fun K hK=> ?_;go_simp;refine(Uu _).mono ?_;rintro y W1 ⟨rfl,Sg,hb⟩;have hsz:(World.drew W).heap.size=W.heap.size:=rfl;rw[hsz]at Sg hb⊢;replace hb:Below W.heap.size W W1:=bQ hb (Below.refl _ _).drew;replace HB:=qB hb HB;replace HP:=qB hb HP;have HS:=qd (show w.heap.size≤W.heap.size from HM.out.size);replace HM:=qd (HM.out.then (Mod.of_below hb [ib]));have HC:=qd Sg;obtain⟨cb,hcb⟩:∃cb,cb=W.heap.size:=⟨_,rfl⟩;rw[←hcb]at HC HS⊢;clear Sg hb hsz c1 c2 hcb;have c1:=HB.out.cell 1;have c2:=HB.out.cell 2;simp only[gl]at c1 c2;go_wp2_with fail;have hHeld:=(⟨c1,c2⟩:_∧_);refine kO hK ?_;clear hK K;refine nT 9 rfl fun K hK=> ?_
 have hput:=HP.out.put (P:=Tryz.prog) (t:=129) Tryz.underlying129 Tryz.underlying3 (by
  rw[BS];intro p hp;obtain⟨i,hi,rfl⟩:=List.mem_map.1 hp;have:=HH.out.ids i hi
  simp only;omega) cb
 have hms:=HP.out.ak (gH its++[(given+1,cb)]) (given+1);have hmm:=HP.out.Ej (.map ((gH its++[(given+1,cb)]).map ny).toArray (given+1))
 have hcm:cb∉[mb]:=fun hh=>by have:=HH.out.map.lt;rw[←List.mem_singleton.1 hh]at this;have:=HS.out;omega
 have him:ib∉[mb]:=fun hh=>HMi.out (by rw[List.mem_singleton.1 hh];simp);rw[show((given+1:Nat):Int)=(given:Int)+1 from by omega]at hput;obtain⟨W2,hW2⟩:∃W2,W2=setBlock W1 mb (.map ((gH its++[(given+1,cb)]).map ny).toArray (given+1)):=⟨_,rfl⟩;rw[←hW2]at hput hms hmm;have HE:=qd (And.intro (HB.out.mod hmm him) (HH.out.opened HLt.out (HB.out.mod hmm him) hms (HC.out.mod hmm hcm) HS.out (HM.out.trans hmm (fun _ hk _=>by simp at hk⊢;exact .inl hk) (fun _ hk _=>by simp at hk⊢;exact .inr hk))));have HE2:=qd (HM.out.trans hmm (U:=[ib,mb]) (fun _ hk _=>by simp at hk⊢;exact .inl hk) (fun _ hk _=>by simp at hk⊢;exact .inr hk));clear hms hmm hcm him hW2 c1 c2;have c1:=HE.out.1.cell 1;simp only[gl]at c1;have HI:=qd (And.intro HE.out.2 HE2.out);clear HE HE2;go_simp;refine kO hK ?_;clear hK K;refine aT (by kernel_rfl) ?_ _;go_wp2;refine bodyPost_ret (v:= .tuple #[.int .i64 ((given:Int)+1),.nilIface]) (by simp[results,Tryz.results30,go_sem]) rfl ⟨cb,HS.out,rfl,HI.out⟩
end
end
end Go.Proofs.YtgiaobmcbbfmnaaGreatDoor
