/- A call that is caught; what comes behind an entry; an iterator's cursor: by their contracts. No statement of the claim. -/
import Derived.Test.YtjfgpnapccdnlaaGreatDoorErrs
import Derived.Test.YtjfgpnapccdnlaaGreatDoorKit2
import Derived.Test.YtjfgpnapccdnlaaGreatDoorSqT
import Derived.Test.YtjfgpnapccdnlaaGreatDoorBuilder
import Derived.Defers
import Derived.Recover
import Derived.MapKept
import Derived.ChangeMaps5
import Derived.WideLaws
import Derived.Test.YtjfgpnapccdnlaaGreatDoorWordsT
import Derived.BigRegion
namespace Go.Proofs.YtjfgpnapccdnlaaGreatDoor
set_option maxRecDepth 100000
set_option maxHeartbeats 4000000
open Go.RowKit dF Go.MapKept
open Go.ChangeMaps (setBlock heap_setBlock_same heap_setBlock_other)
open Go.ChangeMaps (setBlock)
section
structure fZ where
 hash:Nat
 key:Nat
 done:Bool
def behind (hash key:Nat):fZ:=if key<18446744073709551615 then⟨hash,key+1,false⟩else if hash<18446744073709551615 then⟨hash+1,0,false⟩else⟨0,0,true⟩
def fZ.ok (c:fZ):Prop:=c.hash<18446744073709551616∧c.key<18446744073709551616
def fZ.cells (c:fZ):Array Value:= #[.int .u64 (c.key:Int),.int .u64 0,.int .u64 (c.hash:Int),.bool c.done]
def fB (w:World)(b:Nat)(c:fZ):Prop:=aj w b 222 c.cells
theorem fB.blk {w:World}{b:Nat}{c:fZ}(h:fB w b c):aj w b 222 #[.int .u64 (c.key:Int),.int .u64 0,.int .u64 (c.hash:Int),.bool c.done]:=h
theorem fB.lt {w:World}{b:Nat}{c:fZ}(h:fB w b c):b<w.heap.size:=aj.lt h
theorem fB.mod {S:List Nat}{w w':World}{b:Nat}{c:fZ}(h:fB w b c)(hm:Mod S w w')(hb:b∉S):fB w' b c:=aj.mod h hm hb
instance {w w':World}{b:Nat}{c:fZ}:Md (fB w b c) w w' (fB w' b c) (fun S=>b∉S):=⟨fun h hm hs=>fB.mod h hm hs⟩
theorem U6 (p:Addr)(w:World):
  CallsD Tryz.prog 56 #[.pointer (some p)] .returning w fun e u' w'=>e= .returned (.tuple #[])∧u'= .returning∧w'=w:=by
 refine callsD_of_wpS Tryz.func56 rfl fun c₀ cs hu=> ?_;apply wpS_seq;apply wpS_region;simp[wpOpsS,go_sem,recoverD,hu,Tryz.ntmps56,Exit.thenS];refine wpS_of_wp ?_;go_wp2;cases c₀
 simp_all[bodyPostS,results,Tryz.results56]
theorem acA (d:Nat)(fn:Fn)(a b:Array Value)(w:World):(Op.equalIn (d+1) 1 (.func fn a b) .nilFunc).run Tryz.prog w= .ok false w:=by simp[Op.equalIn,run_underlying Tryz.underlying1]
theorem aeF (fn:Fn)(a b:Array Value)(w:World):(Op.equal 1 (.func fn a b) .nilFunc).run Tryz.prog w= .ok false w:=acA 9999 fn a b w
theorem Jy {S:List Nat}{K:World→Prop}(G:FuncId)(cap:Array Value)(w:World)(hG:∀W:World,(callFunc G cap).run Tryz.prog W= .ok (.enter G cap) W)(hS:w.heap.size∉S)
  (hc:Calls Tryz.prog G cap (w.alloc (.cells #[.nilIface] 32)) fun e w1=>e= .returned (.tuple #[])∧Mod S (w.alloc (.cells #[.nilIface] 32)) w1∧K w1):
  Calls Tryz.prog 28 #[.func (.func G) #[] cap] w fun e w1=>e= .returned .nilIface∧Mod S (w.alloc (.cells #[.nilIface] 32)) w1∧K w1:=by
 have pW:∀(fn:Fn) (first cap:Array Value) (w:World),(Instr.makeFunc fn first cap).run Tryz.prog w= .ok (.func fn first cap) w:=fun _ _ _ _=>rfl
 have hq:∀W:World,(binOp .eql 1 (.func (.func G) #[] cap) .nilFunc).run Tryz.prog W= .ok (.bool false) W:=fun W=>by
  simp only[binOp];simp[aeF]
 have HC:=qd hc;clear hc;go_enter_defers Tryz.func28,Tryz.ntmps28;go_wp2_with fail;refine HC.out.mono ?_;rintro y w1 ⟨rfl,hm,hk⟩;have hB:=(aj.new w 32 #[.nilIface]).mod hm hS;have hid:=hB.jX (i:=0) (u:= .nilIface) rfl;have c0:=hB.cell 0;have f0:=hB.frozen 0;simp only[List.getElem?_toArray,List.getElem?_cons_zero]at c0;have HI:=qd hid;have HM:=qd hm;have HK:=qd hk;clear hB hid hm hk HC;go_wp2;rw[HI.out];refine leaves_cons (f:=56) (args:= #[.pointer (some ⟨w.heap.size,0,none⟩)]) (by simp) (by simp[go_sem]) ?_;refine(U6 ⟨w.heap.size,0,none⟩ _).mono ?_;rintro e u' w2 ⟨rfl,rfl,rfl⟩;simp[Leaves,settle,results,Tryz.results28,go_sem,c0];exact⟨HM.out,HK.out⟩
theorem F7 (e:ay)(hk:e.key<18446744073709551616)(hh:e.hash<18446744073709551616)(w:World):Calls Tryz.prog 176 #[aW e] w fun y w'=>y= .returned (.tuple #[.int .u64 ((behind e.hash e.key).hash:Int),.int .u64 ((behind e.hash e.key).key:Int),.bool (!(behind e.hash e.key).done)])∧Below w.heap.size w w':=by
 have hB:=(Below.refl w.heap.size w).alloc (Nat.le_refl _) (.cells #[.int .u64 (e.key:Int),.int .u64 (e.val:Int),.int .u64 (e.hash:Int)] 148);have hE:=aj.new w 148 #[.int .u64 (e.key:Int),.int .u64 (e.val:Int),.int .u64 (e.hash:Int)];obtain⟨W,hW⟩:∃W,W=w.alloc (.cells #[.int .u64 (e.key:Int),.int .u64 (e.val:Int),.int .u64 (e.hash:Int)] 148):=⟨_,rfl⟩;rw[←hW]at hB hE;have c0:=hE.cell 0;have c2:=hE.cell 2;simp only[gl]at c0 c2;have HW:=qd hW;have HB:=qd hB;clear hW hB hE;unfold aW behind;by_cases h1:e.key<18446744073709551615
 ·rw[if_pos h1]
  have hlt:(e.key:Int)<18446744073709551615:=by omega
  have hw:IntKind.u64.wrap ((e.key:Int)+1)=((e.key+1:Nat):Int):=by rw[IntKind.wrap_u64];omega
  go_in;go_upto_region 1 with fail;rw[←HW.out];go_upto_region 2 with fail;go_region;go_wp2;refine bodyPost_ret (v:= .tuple #[.int .u64 (e.hash:Int),.int .u64 ((e.key+1:Nat):Int),.bool true]) (by simp[results,Tryz.results176,go_sem]) rfl ⟨rfl,HB.out.drew⟩
 ·have hlt:¬(e.key:Int)<18446744073709551615:=by omega
  rw[if_neg h1];by_cases h2:e.hash<18446744073709551615
  ·rw[if_pos h2]
   have hlt2:(e.hash:Int)<18446744073709551615:=by omega
   have hw:IntKind.u64.wrap ((e.hash:Int)+1)=((e.hash+1:Nat):Int):=by rw[IntKind.wrap_u64];omega
   go_in;go_upto_region 1 with fail;rw[←HW.out];go_wp2;refine bodyPost_ret (v:= .tuple #[.int .u64 ((e.hash+1:Nat):Int),.int .u64 0,.bool true]) (by simp[results,Tryz.results176,go_sem]) rfl ⟨rfl,HB.out⟩
  ·rw[if_neg h2]
   have hlt2:¬(e.hash:Int)<18446744073709551615:=by omega
   go_in;go_upto_region 1 with fail;rw[←HW.out];go_wp2;refine bodyPost_ret (v:= .tuple #[.int .u64 0,.int .u64 0,.bool false]) (by simp[results,Tryz.results176,go_sem]) rfl ⟨rfl,HB.out⟩
theorem U7 (w:World):Calls Tryz.prog 107 #[] w fun y w'=>y= .returned (.pointer (some ⟨w.heap.size,0,none⟩))∧fB w' w.heap.size ⟨0,0,false⟩∧Below w.heap.size w w':=by
 go_in;go_wp2;go_ret;exact⟨rfl,aj.new _ _ _,(Below.refl _ _).alloc (Nat.le_refl _) _⟩
section
variable {w : World} {b : Nat} {c : fZ}
theorem X4 (h:fB w b c):Calls Tryz.prog 109 #[.pointer (some ⟨b,0,none⟩)] w fun y w'=>y= .returned (.tuple #[.int .u64 (c.hash:Int),.int .u64 (c.key:Int)])∧Below w.heap.size w w':=by
 have c0:=h.blk.cell 0;have c2:=h.blk.cell 2;simp only[gl]at c0 c2;clear h;go_in;go_upto_region 1 with fail;go_region;go_wp2;refine bodyPost_ret (v:= .tuple #[.int .u64 (c.hash:Int),.int .u64 (c.key:Int)]) (by simp[results,Tryz.results109,go_sem]) rfl ⟨rfl,(Below.refl _ _).drew⟩
theorem F9 (h:fB w b c):Calls Tryz.prog 69 #[.pointer (some ⟨b,0,none⟩)] w fun y w'=>y= .returned (.bool c.done)∧w=w':=by
 have c3:=h.blk.cell 3;simp only[gl]at c3;clear h;go_in;go_wp2;go_ret;exact⟨rfl,rfl⟩
theorem U8 (h:fB w b c):Calls Tryz.prog 230 #[.pointer (some ⟨b,0,none⟩)] w fun y w'=>y= .returned undef∧fB w' b ⟨0,0,true⟩∧Mod [b] w w':=by
 obtain⟨c0,c1,c2,c3⟩:=h.blk.c4;obtain⟨f0,f1,f2,f3⟩:=h.blk.f4;have hn:=(((h.blk.ak 0 (.int .u64 0)).ak 1 (.int .u64 0)).ak 2 (.int .u64 0)).ak 3 (.bool true);simp only[pt]at hn;have HN:=qd (And.intro hn (((((Mod.refl [b] w).sl 0 (.int .u64 0)).sl 1 (.int .u64 0)).sl 2 (.int .u64 0)).sl 3 (.bool true)));clear h hn;go_in;go_wp2;go_end0;exact⟨rfl,HN.out⟩
theorem Nq (h:fB w b c)(hd:c.done=false)(e:ay):Calls Tryz.prog 174 #[.pointer (some ⟨b,0,none⟩),aW e] w fun y w'=>y= .returned (.bool (bA e ⟨c.key,0,c.hash⟩))∧Below w.heap.size w w':=by
 have hB:=(Below.refl w.heap.size w).alloc (Nat.le_refl _) (.cells #[.int .u64 (e.key:Int),.int .u64 (e.val:Int),.int .u64 (e.hash:Int)] 148);have hE:=aj.new w 148 #[.int .u64 (e.key:Int),.int .u64 (e.val:Int),.int .u64 (e.hash:Int)];obtain⟨W,hW⟩:∃W,W=w.alloc (.cells #[.int .u64 (e.key:Int),.int .u64 (e.val:Int),.int .u64 (e.hash:Int)] 148):=⟨_,rfl⟩;rw[←hW]at hB hE;have hC:fB W b c:=h.mod (Mod.of_below hB []) (by simp);obtain⟨c0,c1,c2,c3⟩:=hC.blk.c4;rw[hd]at c3;obtain⟨e0,e1,e2⟩:=hE.c3;have HL:=qd (fun V=>jW e ⟨c.key,0,c.hash⟩ V);have HW:=qd hW;have HB:=qd hB;unfold aW at HL⊢;simp only[Int.natCast_zero]at HL;clear hW hB hE hC h;go_in;go_upto_region 1 with fail;rw[←HW.out];refine rT (fun(w':World)=>w'.cell? ⟨w.heap.size,0,none⟩=some (.int .u64 (e.key:Int))∧w'.cell? ⟨w.heap.size,1,none⟩=some (.int .u64 (e.val:Int))∧w'.cell? ⟨w.heap.size,2,none⟩=some (.int .u64 (e.hash:Int))∧w'.cell? ⟨b,0,none⟩=some (.int .u64 (c.key:Int))∧w'.cell? ⟨b,1,none⟩=some (.int .u64 0)∧w'.cell? ⟨b,2,none⟩=some (.int .u64 (c.hash:Int))∧w'.cell? ⟨b,3,none⟩=some (.bool false)) [10] ?_;have hHeld:=(⟨e0,e1,e2,c0,c1,c2,c3⟩:_∧_∧_∧_∧_∧_∧_);refine vW 0 rfl ?_;refine vW 1 rfl ?_;refine vW 2 rfl ?_;refine vT 3 rfl ?_;refine vW 4 rfl ?_;refine vT 5 rfl ?_;refine vW 6 rfl ?_;refine vW 7 rfl ?_;refine vW 8 rfl ?_;refine vT 9 rfl ?_;refine nT 10 rfl fun K hK=> ?_;go_simp;refine(HL.out _).mono ?_;rintro y W1 ⟨rfl,hb⟩;replace hb:Below W.heap.size W W1:=bP hb (Below.refl _ _).drew
 replace HB:=qd (bP hb HB.out);clear hb;go_wp2_with fail;refine kO hK ?_;clear hK K;refine vL 11 rfl ?_;refine vL 12 rfl ?_;refine aX (by kernel_rfl) ?_ _;go_wp2;go_ret;exact⟨rfl,HB.out⟩
theorem Ga (h:fB w b c)(c':fZ)(hd:c.done=false)(h0:c'.done=true→c'=⟨0,0,true⟩):Calls Tryz.prog 175 #[.pointer (some ⟨b,0,none⟩),.int .u64 (c'.hash:Int),.int .u64 (c'.key:Int),.bool (!c'.done)] w fun y w'=>y= .returned undef∧fB w' b c'∧Mod [b] w w':=by
 have HE:=qd (U8 h);obtain⟨c0,c1,c2,c3⟩:=h.blk.c4;obtain⟨f0,f1,f2,f3⟩:=h.blk.f4;have hn:=((h.blk.ak 0 (.int .u64 (c'.key:Int))).ak 1 (.int .u64 0)).ak 2 (.int .u64 (c'.hash:Int));simp only[pt]at hn;have HN:=qd (And.intro hn ((((Mod.refl [b] w).sl 0 (.int .u64 (c'.key:Int))).sl 1 (.int .u64 0)).sl 2 (.int .u64 (c'.hash:Int))));clear h hn
 cases hc:c'.done with
 |true=>
  have:=h0 hc;subst this;go_in;go_wp2_with fail;refine HE.out.mono ?_;rintro y w1 ⟨rfl,hC,hm⟩;go_wp2;refine bodyPost_ret (results_none rfl _ _ _) rfl ?_;exact⟨rfl,hC,hm⟩
 |false=>
  have HD:=qd hd;have HQ:=qd hc;clear hd hc h0;go_in;go_wp2;go_end0;refine⟨rfl, ?_,HN.out.2⟩;have h1:=HN.out.1;unfold fB fZ.cells;rw[HQ.out];rw[HD.out]at h1;exact h1
theorem Jz {h k:Nat}(hd:(behind h k).done=true):behind h k=⟨0,0,true⟩:=by
 unfold behind at hd⊢;split
 ·rename_i h1;rw[if_pos h1]at hd;cases hd
 ·rename_i h1;rw[if_neg h1]at hd;split
  ·rename_i h2;rw[if_pos h2]at hd;cases hd
  ·rfl
theorem Rt (h:fB w b c)(hd:c.done=false)(e:ay)(hk:e.key<18446744073709551616)(hh:e.hash<18446744073709551616)(hl:bA e ⟨c.key,0,c.hash⟩=false):Calls Tryz.prog 111 #[.pointer (some ⟨b,0,none⟩),aW e] w fun y w'=>y= .returned .nilIface∧fB w' b (behind e.hash e.key)∧Mod [b] w w':=by
 have hB:=(Below.refl w.heap.size w).alloc (Nat.le_refl _) (.cells #[.int .u64 (e.key:Int),.int .u64 (e.val:Int),.int .u64 (e.hash:Int)] 148);have hE:=aj.new w 148 #[.int .u64 (e.key:Int),.int .u64 (e.val:Int),.int .u64 (e.hash:Int)];obtain⟨W,hW⟩:∃W,W=w.alloc (.cells #[.int .u64 (e.key:Int),.int .u64 (e.val:Int),.int .u64 (e.hash:Int)] 148):=⟨_,rfl⟩;rw[←hW]at hB hE;have hC:fB W b c:=h.mod (Mod.of_below hB []) (by simp);have Aq:=qd (Nq hC hd e);rw[hl]at Aq;have SV:=qd (fun V=>F7 e hk hh V);have HC:=qd hC;have HE:=qd hE;have HW:=qd hW;have HB:=qd hB;have HD:=qd hd;obtain⟨e0,e1,e2⟩:=hE.c3;unfold aW at Aq SV⊢;clear hW hB hE hC h hd hl;go_in;go_upto_region 1 with fail;rw[←HW.out];go_wp2_with fail;refine Aq.out.mono ?_;rintro y w1 ⟨rfl,hb⟩;replace HC:=qB hb HC;replace HE:=qB hb HE;replace HB:=qd (bP hb HB.out);clear hb Aq e0 e1 e2;obtain⟨e0,e1,e2⟩:=HE.out.c3;go_wp2_with fail;refine(SV.out _).mono ?_;rintro y w2 ⟨rfl,hb⟩;replace HC:=qB hb HC;replace HB:=qd (bP hb HB.out);clear hb SV e0 e1 e2;have HM:=qd (Ga HC.out (behind e.hash e.key) HD.out Jz);go_wp2_with fail;refine HM.out.mono ?_;rintro y w3 ⟨rfl,Cz,hm⟩;have oq:=qd Cz;have Oi:=qd ((Mod.of_below HB.out [b]).then hm);clear Cz hm;go_wp2;go_ret;exact⟨rfl,oq.out,Oi.out⟩
theorem Ru (h:fB w b c)(hd:c.done=false)(high:Nat)(hh:high<18446744073709551616)(hl:c.hash≤high):Calls Tryz.prog 112 #[.pointer (some ⟨b,0,none⟩),.int .u64 (high:Int)] w fun y w'=>y= .returned .nilIface∧fB w' b (behind high 18446744073709551615)∧Mod [b] w w':=by
 have c2:=h.blk.cell 2;have c3:=h.blk.cell 3;simp only[gl]at c2 c3;rw[hd]at c3
 have hle:¬(high:Int)<(c.hash:Int):=by omega
 have SV:=qd (show∀V,Calls Tryz.prog 176 #[.agg #[.int .u64 18446744073709551615,.int .u64 0,.int .u64 (high:Int)]] V _ from fun V=>F7 ⟨18446744073709551615,0,high⟩ (by simp only;omega) hh V);have HC:=qd h;have HD:=qd hd;clear h hd hl;go_in;go_wp2_with fail;refine(SV.out _).mono ?_;rintro y w2 ⟨rfl,hb⟩;replace HC:=qB hb HC;have HB:=qd hb;clear hb SV c2 c3;have HM:=qd (Ga HC.out (behind high 18446744073709551615) HD.out Jz);go_wp2_with fail;refine HM.out.mono ?_;rintro y w3 ⟨rfl,Cz,hm⟩;have oq:=qd Cz;have Oi:=qd ((Mod.of_below HB.out [b]).then hm);clear Cz hm;go_wp2;go_ret;exact⟨rfl,oq.out,Oi.out⟩
end
end
section
def nD (p:Nat×Nat):MapEntry:=⟨.int .i64 (p.1:Int),.pointer (some ⟨p.2,0,none⟩),p.1-1⟩
def jd (w:World)(b g:Nat)(l:List (Nat×Nat)):Prop:=w.heap[b]?=some (.map (l.map nD).toArray g)
def nG (l:List (Nat×Nat))(x:Int):Option Nat:=(l.find? fun p=>decide ((p.1:Int)=x)).map Prod.snd
def U9 (o:Option Nat):Value:= .pointer (o.map fun b=>⟨b,0,none⟩)
section
variable {P : Program} {w w' : World} {b g : Nat} {l : List (Nat × Nat)} {t k e : TypeId}
theorem jd.lt (h:jd w b g l):b<w.heap.size:=(Array.getElem?_eq_some_iff.1 h).1
theorem jd.mod {S:List Nat}(h:jd w b g l)(hm:Mod S w w')(hb:b∉S):jd w' b g l:=(hm.block b h.lt hb).trans h
instance {w w':World}{b g:Nat}{l:List (Nat×Nat)}:Md (jd w b g l) w w' (jd w' b g l) (fun S=>b∉S):=⟨fun h hm hs=>jd.mod h hm hs⟩
theorem jd.new (w:World):jd (w.alloc (.map #[] 0)) w.heap.size 0 []:=by
 exact heap_alloc_new w _
theorem Cb (x:Int):∀(l:List (Nat×Nat)) (i:Nat),∃a,Instr.findNow (.int .i64) (.int .i64 x) (l.map nD) i=some a∧a.map Prod.snd=(nG l x).map (fun b=>Value.pointer (some ⟨b,0,none⟩))∧∀p,a=some p→∃j,p.1=i+j∧(l.map Prod.fst)[j]?.map (fun n:Nat=>(n:Int))=some x
 | [],_=>⟨none,rfl,rfl,fun _ h=>by cases h⟩
 |p::l,i=>by
  by_cases hp:(p.1:Int)=x
  ·refine⟨some (i,.pointer (some ⟨p.2,0,none⟩)), ?_, ?_,fun q hq=> ?_⟩
   ·subst hp;simp[Instr.findNow,Instr.sameNow,nD]
   ·unfold nG;rw[List.find?_cons_of_pos (by simpa using hp)];rfl
   ·cases hq;exact⟨0,rfl,by simp[hp]⟩
  ·obtain⟨a,h1,h2,h3⟩:=Cb x l (i+1);refine⟨a, ?_, ?_,fun q hq=> ?_⟩
   ·have:((x==(p.1:Int))=false):=by simpa using fun h=>hp h.symm
    simp[Instr.findNow,Instr.sameNow,nD,this]at h1⊢;exact h1
   ·unfold nG at h2⊢;rw[List.find?_cons_of_neg (by simpa using hp)];exact h2
   ·obtain⟨j,h4,h5⟩:=h3 q hq;exact⟨j+1,by omega,by simpa using h5⟩
theorem EP {x:Int}:IsKey (.int .i64) (.int .i64 x):=by simp[IsKey]
theorem jd.look (h:jd w b g l)(ht:P.underlying t=some (.map k e))(hk:P.underlying k=some (.int .i64))(hz:(zeroValue e).run P w= .ok (.pointer none) w)(x:Int):
  (Instr.lookup t (.map (some b)) (.int .i64 x) true).run P w= .ok (.tuple #[U9 (nG l x),.bool (nG l x).isSome]) w:=by
 obtain⟨a,h1,h2,_⟩:=Cb x l 0;have h3:=run_findKey (P:=P) (w:=w) hk h1
 cases hf:nG l x with
 |none=>
  rw[hf]at h2
  obtain rfl:a=none:=by cases a with|none=>rfl|some q=>simp at h2
  simp[Instr.lookup,run_underlying ht,Go.MapKept.run_getObj_map (show w.heap[b]?=some (.map (l.map nD).toArray g)from h),run_checkKey hk EP,h3,hz,Result.andThen,U9]
 |some c=>
  rw[hf]at h2
  cases a with
  |none=>simp at h2
  |some q=>
   obtain⟨i,v⟩:=q;simp at h2;subst h2;simp[Instr.lookup,run_underlying ht,Go.MapKept.run_getObj_map (show w.heap[b]?=some (.map (l.map nD).toArray g)from h),run_checkKey hk EP,h3,Result.andThen,U9]
theorem Cc {x:Int}:nG l x=none↔∀p∈l,(p.1:Int)≠x:=by
 unfold nG;rw[Option.map_eq_none_iff,List.find?_eq_none];simp
theorem X5 {x:Int}{c:Nat}(h:nG l x=some c):∃n:Nat,(n,c)∈l∧(n:Int)=x:=by
 unfold nG at h;rw[Option.map_eq_some_iff]at h;obtain⟨p,h1,rfl⟩:=h;have h2:=List.find?_some h1;exact⟨p.1,List.mem_of_find?_eq_some h1,by simpa using h2⟩
theorem jd.Eo (h:jd w b g l)(o:Obj):Mod [b] w (setBlock w b o):=⟨rfl,rfl,rfl,by simp[setBlock],fun k _ hn=>heap_setBlock_other h o (by simpa using hn)⟩
theorem jd.put (h:jd w b g l)(ht:P.underlying t=some (.map k e))(hk:P.underlying k=some (.int .i64))(hf:nG l ((g+1:Nat):Int)=none)(c:Nat):
  (Instr.mapUpdate t (.map (some b)) (.int .i64 ((g+1:Nat):Int)) (.pointer (some ⟨c,0,none⟩))).run P w= .ok () (setBlock w b (.map ((l++[(g+1,c)]).map nD).toArray (g+1))):=by
 obtain⟨a,h1,h2,_⟩:=Cb ((g+1:Nat):Int) l 0;have h3:=run_findKey (P:=P) (w:=w) hk h1;rw[hf]at h2
 obtain rfl:a=none:=by cases a with|none=>rfl|some q=>simp at h2
 rw[show((g+1:Nat):Int)=(g:Int)+1 from by omega]at h3;simp[Instr.mapUpdate,run_underlying ht,Go.MapKept.run_getObj_map (show w.heap[b]?=some (.map (l.map nD).toArray g)from h),run_checkKey hk EP,h3,Go.MapKept.run_setObj_map _ (show w.heap[b]?=some (.map (l.map nD).toArray g)from h),Result.andThen,setBlock,nD]
theorem jd.ak (h:jd w b g l)(l':List (Nat×Nat))(g':Nat):jd (setBlock w b (.map (l'.map nD).toArray g')) b g' l':=heap_setBlock_same h _
end
end
section
variable {cb id : Nat} {c : fZ}
structure It where
 id:Nat
 cb:Nat
 c:fZ
def bH (ib mb:Nat)(its:List It):List Nat:=ib::mb::its.map It.cb
def gZ (its:List It):List (Nat×Nat):=its.map fun i=>(i.id,i.cb)
structure gG (w:World)(ib mb most given:Nat)(its:List It):Prop where
 blk:aj w ib 137 #[.int .i64 (most:Int),.int .i64 (given:Int),.map (some mb)]
 map:jd w mb given (gZ its)
 cur:∀i∈its,fB w i.cb i.c
 ids:∀i∈its,1≤i.id∧i.id≤given
 nd:(its.map It.id).Nodup
 nf:(bH ib mb its).Nodup
 few:most≤8∧its.length≤most
section
variable {w w' : World} {ib mb most given : Nat} {its : List It}
theorem gG.iE (h:gG w ib mb most given its):∀q∈bH ib mb its,q<w.heap.size:=by
 intro q hq;unfold bH at hq;rcases List.mem_cons.1 hq with rfl|hq
 ·exact h.blk.lt
 ·rcases List.mem_cons.1 hq with rfl|hq
  ·exact h.map.lt
  ·obtain⟨i,hi,rfl⟩:=List.mem_map.1 hq;exact(h.cur i hi).lt
theorem gG.mod {S:List Nat}(h:gG w ib mb most given its)(hm:Mod S w w')(hS:∀q∈bH ib mb its,q∉S):gG w' ib mb most given its:=
 ⟨h.blk.mod hm (hS _ (by simp[bH])),h.map.mod hm (hS _ (by simp[bH])),fun i hi=>(h.cur i hi).mod hm (hS _ (by simp only[bH,List.mem_cons];exact .inr (.inr (List.mem_map_of_mem hi)))),h.ids,h.nd,h.nf,h.few⟩
instance {w w':World}{ib mb most given:Nat}{its:List It}:Md (gG w ib mb most given its) w w' (gG w' ib mb most given its) (fun S=>∀q∈bH ib mb its,q∉S):=⟨fun h hm hs=>gG.mod h hm hs⟩
theorem gG.below (h:gG w ib mb most given its)(hb:Below w.heap.size w w'):gG w' ib mb most given its:=h.mod (Mod.of_below hb []) (by simp)
end
theorem acB (w:World):(zeroValue 155).run Tryz.prog w= .ok (.pointer none) w:=by kernel_rfl
theorem adX {w:World}{b g:Nat}{l:List (Nat×Nat)}(h:jd w b g l)(ty:TypeId):(Builtin.len_ #[135] ty #[.map (some b)]).run Tryz.prog w= .ok (.int .i64 (l.length:Int)) w:=by
 have:=run_len_map (P:=Tryz.prog) w 135 ty b _ g (by kernel_rfl) (show w.heap[b]?=some (.map (l.map nD).toArray g)from h);rw[this];simp[goInt]
theorem X6 (n:Nat)(hn:1≤n∧n≤8)(w:World):Calls Tryz.prog 27 #[.int .i64 (n:Int)] w fun y w'=>y= .returned (.tuple #[.pointer (some ⟨(w.heap.size+1),0,none⟩),.nilIface])∧gG w' (w.heap.size+1) w.heap.size n 0 []∧Below w.heap.size w w':=by
 have h1:¬(n:Int)<1:=by omega
 have h2:¬(n:Int)>8:=by omega
 have hm:∀W:World,(Instr.makeMap 135 none).run Tryz.prog W= .ok (.map (some W.heap.size)) (W.alloc (.map #[] 0)):=fun _=>rfl;have HN:=qd hn;clear hn;go_in;go_wp2;refine bodyPost_ret (v:= .tuple #[.pointer (some ⟨(w.heap.size+1),0,none⟩),.nilIface]) (by simp[results,Tryz.results27,go_sem]) rfl ⟨rfl, ?_, ?_⟩
 ·exact⟨by simpa using aj.new (w.alloc (.map #[] 0)) 137 #[.int .i64 (n:Int),.int .i64 0,.map (some w.heap.size)],(jd.new w).mod (Mod.of_below ((Below.refl _ _).alloc (Nat.le_refl _) _) []) (by simp),by simp,by simp,by simp,by simp[bH],by have:=HN.out;simp;omega⟩
 ·exact((Below.refl _ _).alloc (Nat.le_refl _) _).alloc (by simp) _
section
variable {w : World} {ib mb most given : Nat} {its : List It}
theorem yL {its:List It}(hn:(its.map It.id).Nodup){i j:It}(hi:i∈its)(hj:j∈its)(h:i.id=j.id):i=j:=by
 induction its with
 |nil=>cases hi
 |cons x l ih=>
  rw[List.map_cons,List.nodup_cons]at hn;rcases List.mem_cons.1 hi with h1|h1
  ·rcases List.mem_cons.1 hj with h2|h2
   ·rw[h1,h2]
   ·exact absurd (show x.id∈l.map It.id from by rw[←h1,h];exact List.mem_map_of_mem h2) hn.1
  ·rcases List.mem_cons.1 hj with h2|h2
   ·exact absurd (show x.id∈l.map It.id from by rw[←h2,←h];exact List.mem_map_of_mem h1) hn.1
   ·exact ih hn.2 h1 h2
theorem aaP (hn:(its.map It.id).Nodup)(h:⟨id,cb,c⟩∈its):nG (gZ its) (id:Int)=some cb:=by
 cases hf:nG (gZ its) (id:Int)with
 |none=>
  exact absurd rfl (Cc.1 hf (id,cb) (List.mem_map.2 ⟨_,h,rfl⟩))
 |some cb'=>
  obtain⟨n,h1,h2⟩:=X5 hf;obtain⟨i,h3,h4⟩:=List.mem_map.1 h1;obtain⟨h5,h6⟩:=Prod.mk.inj h4
  have hid:i.id=id:=by omega
  have:i=⟨id,cb,c⟩:=by
   exact yL hn h3 h hid
  rw[this]at h6;exact congrArg some h6.symm
theorem Qs (h:gG w ib mb most given its)(hi:⟨id,cb,c⟩∈its):Calls Tryz.prog 68 #[.pointer (some ⟨ib,0,none⟩),.int .i64 (id:Int)] w fun y w'=>y= .returned (.tuple #[.pointer (some ⟨cb,0,none⟩),.nilIface])∧w=w':=by
 have hl:=h.map.look (P:=Tryz.prog) (t:=135) Tryz.underlying135 Tryz.underlying3 (acB _) (id:Int);rw[aaP h.nd hi]at hl;obtain⟨c0,c1,c2⟩:=h.blk.c3;unfold U9 at hl;simp only[Option.map_some,Option.isSome_some]at hl;clear h hi;go_in;go_wp2;refine bodyPost_ret (v:= .tuple #[.pointer (some ⟨cb,0,none⟩),.nilIface]) (by simp[results,Tryz.results68,go_sem]) rfl ⟨rfl,rfl⟩
theorem gG.opened {w2:World}(h:gG w ib mb most given its)(hlt:its.length<most)(hb:aj w2 ib 137 #[.int .i64 (most:Int),.int .i64 ((given:Int)+1),.map (some mb)])(hm:jd w2 mb (given+1) (gZ its++[(given+1,cb)]))(hc:fB w2 cb ⟨0,0,false⟩)(hcb:w.heap.size≤cb)(hmod:Mod [ib,mb] w w2):gG w2 ib mb most (given+1) (its++[⟨given+1,cb,⟨0,0,false⟩⟩]):=by
 have hl:=h.iE;have hnf:=h.nf
 have afv:∀i∈its,i.cb∉[ib,mb]:=fun i hi=>by
  unfold bH at hnf;rw[List.nodup_cons,List.nodup_cons]at hnf;have:=List.mem_map_of_mem (f:=It.cb) hi;intro hh;rcases List.mem_cons.1 hh with e|e
  ·exact hnf.1 (List.mem_cons_of_mem _ (e▸this))
  ·exact hnf.2.1 (List.mem_singleton.1 e▸this)
 refine⟨hb,by unfold gZ at hm⊢;rw[List.map_append];exact hm,fun i hi=> ?_,fun i hi=> ?_, ?_, ?_,h.few.1,by rw[List.length_append];simp;omega⟩
 ·rcases List.mem_append.1 hi with hi|hi
  ·exact(h.cur i hi).mod hmod (afv i hi)
  ·rw[List.mem_singleton.1 hi];exact hc
 ·rcases List.mem_append.1 hi with hi|hi
  ·have:=h.ids i hi;omega
  ·rw[List.mem_singleton.1 hi];simp
 ·rw[List.map_append,List.nodup_append];refine⟨h.nd,by simp,fun a ha b hb=> ?_⟩;obtain⟨i,hi,rfl⟩:=List.mem_map.1 ha;have:=h.ids i hi;simp at hb;omega
 ·have:bH ib mb (its++[⟨given+1,cb,⟨0,0,false⟩⟩])=bH ib mb its++[cb]:=by simp[bH]
  rw[this,List.nodup_append];refine⟨h.nf,by simp,fun a ha b hb=> ?_⟩;have:=hl a ha;simp at hb;omega
theorem Va (h:gG w ib mb most given its)(hlt:its.length<most)(hg:given≤100000):Calls Tryz.prog 66 #[.pointer (some ⟨ib,0,none⟩)] w fun y w'=>∃cb,w.heap.size≤cb∧y= .returned (.tuple #[.int .i64 ((given+1:Nat):Int),.nilIface])∧gG w' ib mb most (given+1) (its++[⟨given+1,cb,⟨0,0,false⟩⟩])∧Mod [ib,mb] w w':=by
 obtain⟨c0,c1,c2⟩:=h.blk.c3;have f1:=h.blk.frozen 1;have hl:=adX (h.map.mod (Mod.of_below (Below.refl w.heap.size w).drew []) (by simp)) 3
 have hll:(gZ its).length=its.length:=by simp[gZ]
 rw[hll]at hl
 have hlt':¬(its.length:Int)≥(most:Int):=by omega
 have hw1:IntKind.i64.wrap ((given:Int)+1)=((given+1:Nat):Int):=by rw[IntKind.wrap_i64];omega
 have hnew:=((h.blk.ak 1 (.int .i64 ((given:Int)+1)))).drew;have hm:=(((Mod.refl [ib] w).sl 1 (.int .i64 ((given:Int)+1)))).then (Mod.of_below (Below.refl _ _).drew [ib]);simp only[pt]at hnew
 have X7:mb∉[ib]:=fun hh=>by have:=h.nf;unfold bH at this;rw[List.nodup_cons]at this;exact this.1 (by rw[List.mem_singleton.1 hh];simp)
 have mU:=qd (And.intro hnew (And.intro hm (h.map.mod hm X7)));have HH:=qd h;have Fp:=qd hlt;have HMi:=qd X7;clear h hnew hm X7 hlt;go_in;go_upto_region 1 with fail;go_region;go_upto_region 4 with fail;refine dx (F:=fun v=>aj v ib 137 #[.int .i64 (most:Int),.int .i64 ((given:Int)+1),.map (some mb)]∧Mod [ib] w v∧jd v mb given (gZ its)) mU.out ?_;clear mU c0 c1 c2 f1 hl hll;rintro W ⟨hb,hm,hmp⟩;have HB:=qd hb;have HM:=qd hm;have HP:=qd hmp;clear hb hm hmp;have c1:=HB.out.cell 1;have c2:=HB.out.cell 2;simp only[gl]at c1 c2;refine rT (fun(w':World)=>w'.cell? ⟨ib,1,none⟩=some (.int .i64 ((given:Int)+1))∧w'.cell? ⟨ib,2,none⟩=some (.map (some mb))) [9] ?_;have hHeld:=(⟨c1,c2⟩:_∧_);refine vW 0 rfl ?_;refine vW 1 rfl ?_;refine vW 2 rfl ?_;refine vT 3 rfl ?_;refine vW 4 rfl ?_;refine vW 5 rfl ?_;refine vW 6 rfl ?_;refine vT 7 rfl ?_;refine nT 8 rfl fun K hK=> ?_;go_simp;refine(U7 _).mono ?_;rintro y W1 ⟨rfl,SX,hb⟩;have hsz:(World.drew W).heap.size=W.heap.size:=rfl;rw[hsz]at SX hb⊢;replace hb:Below W.heap.size W W1:=bP hb (Below.refl _ _).drew;replace HB:=qB hb HB;replace HP:=qB hb HP;have HS:=qd (show w.heap.size≤W.heap.size from HM.out.size);replace HM:=qd (HM.out.then (Mod.of_below hb [ib]));have HC:=qd SX;obtain⟨cb,hcb⟩:∃cb,cb=W.heap.size:=⟨_,rfl⟩;rw[←hcb]at HC HS⊢;clear SX hb hsz c1 c2 hcb;have c1:=HB.out.cell 1;have c2:=HB.out.cell 2;simp only[gl]at c1 c2;go_wp2_with fail;have hHeld:=(⟨c1,c2⟩:_∧_);refine kO hK ?_;clear hK K;refine nT 9 rfl fun K hK=> ?_
 have hput:=HP.out.put (P:=Tryz.prog) (t:=135) Tryz.underlying135 Tryz.underlying3 (by
  rw[Cc];intro p hp;obtain⟨i,hi,rfl⟩:=List.mem_map.1 hp;have:=HH.out.ids i hi
  simp only;omega) cb
 have hms:=HP.out.ak (gZ its++[(given+1,cb)]) (given+1);have hmm:=HP.out.Eo (.map ((gZ its++[(given+1,cb)]).map nD).toArray (given+1))
 have hcm:cb∉[mb]:=fun hh=>by have:=HH.out.map.lt;rw[←List.mem_singleton.1 hh]at this;have:=HS.out;omega
 have him:ib∉[mb]:=fun hh=>HMi.out (by rw[List.mem_singleton.1 hh];simp);rw[show((given+1:Nat):Int)=(given:Int)+1 from by omega]at hput;obtain⟨W2,hW2⟩:∃W2,W2=setBlock W1 mb (.map ((gZ its++[(given+1,cb)]).map nD).toArray (given+1)):=⟨_,rfl⟩;rw[←hW2]at hput hms hmm;have HE:=qd (And.intro (HB.out.mod hmm him) (HH.out.opened Fp.out (HB.out.mod hmm him) hms (HC.out.mod hmm hcm) HS.out (HM.out.trans hmm (fun _ hk _=>by simp at hk⊢;exact .inl hk) (fun _ hk _=>by simp at hk⊢;exact .inr hk))));have HE2:=qd (HM.out.trans hmm (U:=[ib,mb]) (fun _ hk _=>by simp at hk⊢;exact .inl hk) (fun _ hk _=>by simp at hk⊢;exact .inr hk));clear hms hmm hcm him hW2 c1 c2;have c1:=HE.out.1.cell 1;simp only[gl]at c1;have HI:=qd (And.intro HE.out.2 HE2.out);clear HE HE2;go_simp;refine kO hK ?_;clear hK K;refine aX (by kernel_rfl) ?_ _;go_wp2;refine bodyPost_ret (v:= .tuple #[.int .i64 ((given:Int)+1),.nilIface]) (by simp[results,Tryz.results66,go_sem]) rfl ⟨cb,HS.out,rfl,HI.out⟩
end
end
end Go.Proofs.YtjfgpnapccdnlaaGreatDoor
