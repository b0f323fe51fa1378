/- A call that is caught; what comes behind an entry; an iterator's cursor: by their contracts. No statement of the claim. -/
import Derived.Defers
import Derived.Recover
import Derived.MapKept
import Derived.ChangeMaps5
import Derived.WideLaws
import Derived.Test.YtkddpchpcepjgaaGreatDoorCoAB
namespace Go.Proofs.YtkddpchpcepjgaaGreatDoor
set_option maxRecDepth 100000
set_option maxHeartbeats 4000000
open Go.RowKit cu Go.MapKept
open Go.ChangeMaps (setBlock heap_setBlock_same heap_setBlock_other)
open Go.ChangeMaps (setBlock)
theorem k8:type_of% @Go.MapKept.run_getObj_map:=@Go.MapKept.run_getObj_map
section
structure jl where
 hash:Nat
 key:Nat
 done:Bool
def behind (hash key:Nat):jl:=if key<18446744073709551615 then⟨hash,key+1,false⟩else if hash<18446744073709551615 then⟨hash+1,0,false⟩else⟨0,0,true⟩
def jl.ok (c:jl):Prop:=c.hash<18446744073709551616/\c.key<18446744073709551616
def jl.cells (c:jl):Array Value:= #[nU c.key,.int .u64 0,nU c.hash,.bool c.done]
def eY (w:World)(b:Nat)(c:jl):Prop:=aj w b 238 c.cells
theorem eY.blk {w:World}{b:Nat}{c:jl}(h:eY w b c):aj w b 238 #[nU c.key,.int .u64 0,nU c.hash,.bool c.done]:=h
theorem eY.lt {w:World}{b:Nat}{c:jl}(h:eY w b c):b<w.heap.size:=aj.lt h
theorem eY.mod {S:List Nat}{w w':World}{b:Nat}{c:jl}(h:eY w b c)(hm:Mod S w w')(hb:b∉S):eY w' b c:=aj.mod h hm hb
instance {w w':World}{b:Nat}{c:jl}:Md (eY w b c) w w' (eY w' b c) (λS=>b∉S):=⟨λh hm hs=>eY.mod h hm hs⟩
theorem Vx (p:Addr)(w:World):
  CallsD Tryz.prog 93 #[.pointer (some p)] .returning w λe u' w'=>e= .returned (.tuple #[])/\u'= .returning/\w'=w:=by
 refine callsD_of_wpS Tryz.func93 rfl λc₀ cs hu=> ?_;apply wpS_seq;apply wpS_region;simp[wpOpsS,go_sem,recoverD,hu,Tryz.ntmps93,Exit.thenS];refine wpS_of_wp ?_;go_wp2;cases c₀
 simp_all[bodyPostS,results,Tryz.results93]
theorem adn (d:Nat)(fn:Fn)(a b:Array Value)(w:World):(Op.equalIn (d+1) 1 (.func fn a b) .nilFunc).run Tryz.prog w= .ok false w:=by simp[Op.equalIn,XN Tryz.underlying1]
theorem afP (fn:Fn)(a b:Array Value)(w:World):(Op.equal 1 (.func fn a b) .nilFunc).run Tryz.prog w= .ok false w:=adn 9999 fn a b w
theorem Cx {S:List Nat}{K:World->Prop}(G:FuncId)(cap:Array Value)(w:World)(hG:∀W:World,(callFunc G cap).run Tryz.prog W= .ok (.enter G cap) W)(hS:w.heap.size∉S)
  (hc:Calls Tryz.prog G cap (w.alloc (.cells #[.nilIface] 29)) λe w1=>e= .returned (.tuple #[])/\Mod S (w.alloc (.cells #[.nilIface] 29)) w1/\K w1):
  Calls Tryz.prog 66 #[.func (.func G) #[] cap] w λe w1=>e= .returned .nilIface/\Mod S (w.alloc (.cells #[.nilIface] 29)) w1/\K w1:=by
 have p9:∀(fn:Fn) (first cap:Array Value) (w:World),(Instr.makeFunc fn first cap).run Tryz.prog w= .ok (.func fn first cap) w:=λ_ _ _ _=>rfl
 have hq:∀W:World,(binOp .eql 1 (.func (.func G) #[] cap) .nilFunc).run Tryz.prog W= .ok (.bool false) W:=λW=>by
  simp only[binOp];simp[afP]
 have HC:=qd hc;clear hc;go_enter_defers Tryz.func66,Tryz.ntmps66;go_wp2_with fail;refine HC.o.mono ?_;rintro y w1 ⟨rfl,hm,hk⟩;have hB:=(aj.new w 29 #[.nilIface]).mod hm hS;have hid:=hB.Cc (i:=0) (u:= .nilIface) rfl;have c0:=hB.cell 0;have f0:=hB.frozen 0;simp only[zr,zc]at c0;have HI:=qd hid;have HM:=qd hm;have HK:=qd hk;clear hB hid hm hk HC;go_wp2;rw[HI.o];refine leaves_cons (f:=93) (args:= #[pQ w.heap.size]) (by simp) (by simp[go_sem]) ?_;refine(Vx ⟨w.heap.size,0,none⟩ _).mono ?_;rintro e u' w2 ⟨rfl,rfl,rfl⟩;simp[Leaves,settle,results,Tryz.results66,go_sem,c0];exact⟨HM.o,HK.o⟩
theorem Gx (e:ay)(hk:e.key<18446744073709551616)(hh:e.hash<18446744073709551616)(w:World):Calls Tryz.prog 193 #[aP e] w λy w'=>y= .returned (.tuple #[.int .u64 ((behind e.hash e.key).hash:Int),.int .u64 ((behind e.hash e.key).key:Int),.bool (!(behind e.hash e.key).done)])/\Below w.heap.size w w':=by
 have hB:=(Below.refl w.heap.size w).alloc (zb _) (.cells #[nU e.key,nU e.val,nU e.hash] 67);have hE:=aj.new w 67 #[nU e.key,nU e.val,nU e.hash];obtain⟨W,hW⟩:∃W,W=w.alloc (.cells #[nU e.key,nU e.val,nU e.hash] 67):=⟨_,rfl⟩;rw[<-hW]at hB hE;have c0:=hE.cell 0;have c2:=hE.cell 2;simp only[gl]at c0 c2;have HW:=qd hW;have HB:=qd hB;clear hW hB hE;unfold aP behind;by_cases h1:e.key<18446744073709551615
 ·rw[if_pos h1]
  have hlt:(e.key:Int)<18446744073709551615:=by omega
  have hw:IntKind.u64.wrap ((e.key:Int)+1)=((e.key+1:Nat):Int):=by rw[IntKind.wrap_u64];omega
  go_in;go_upto_region 1 with fail;rw[<-HW.o];go_upto_region 2 with fail;go_region;go_wp2;refine bodyPost_ret (v:= .tuple #[nU e.hash,.int .u64 ((e.key+1:Nat):Int),.bool true]) (by simp[results,Tryz.results193,go_sem]) rfl ⟨rfl,HB.o.drew⟩
 ·have hlt:¬(e.key:Int)<18446744073709551615:=by omega
  rw[if_neg h1];by_cases h2:e.hash<18446744073709551615
  ·rw[if_pos h2]
   have hlt2:(e.hash:Int)<18446744073709551615:=by omega
   have hw:IntKind.u64.wrap ((e.hash:Int)+1)=((e.hash+1:Nat):Int):=by rw[IntKind.wrap_u64];omega
   go_in;go_upto_region 1 with fail;rw[<-HW.o];go_wp2;refine bodyPost_ret (v:= .tuple #[.int .u64 ((e.hash+1:Nat):Int),.int .u64 0,.bool true]) (by simp[results,Tryz.results193,go_sem]) rfl ⟨rfl,HB.o⟩
  ·rw[if_neg h2]
   have hlt2:¬(e.hash:Int)<18446744073709551615:=by omega
   go_in;go_upto_region 1 with fail;rw[<-HW.o];go_wp2;refine bodyPost_ret (v:= .tuple #[.int .u64 0,.int .u64 0,.bool false]) (by simp[results,Tryz.results193,go_sem]) rfl ⟨rfl,HB.o⟩
theorem Vy (w:World):Calls Tryz.prog 103 #[] w λy w'=>y= .returned (pQ w.heap.size)/\eY w' w.heap.size ⟨0,0,false⟩/\Below w.heap.size w w':=by
 go_in;go_wp2;go_ret;exact⟨rfl,aj.new _ _ _,(Below.refl _ _).alloc (zb _) _⟩
section
variable {w : World} {b : Nat} {c : jl}
theorem Yo (h:eY w b c):Calls Tryz.prog 141 #[pQ b] w λy w'=>y= .returned (.tuple #[nU c.hash,nU c.key])/\Below w.heap.size w w':=by
 have c0:=h.blk.cell 0;have c2:=h.blk.cell 2;simp only[gl]at c0 c2;clear h;go_in;go_upto_region 1 with fail;go_region;go_wp2;refine bodyPost_ret (v:= .tuple #[nU c.hash,nU c.key]) (by simp[results,Tryz.results141,go_sem]) rfl ⟨rfl,(Below.refl _ _).drew⟩
theorem Gy (h:eY w b c):Calls Tryz.prog 105 #[pQ b] w λy w'=>y= .returned (.bool c.done)/\w=w':=by
 have c3:=h.blk.cell 3;simp only[gl]at c3;clear h;go_in;go_wp2;go_ret;exact⟨rfl,rfl⟩
theorem JX (h:eY w b c):Calls Tryz.prog 102 #[pQ b] w λy w'=>y= .returned undef/\eY w' b ⟨0,0,true⟩/\Mod [b] w w':=by
 obtain⟨c0,c1,c2,c3⟩:=h.blk.c4;obtain⟨f0,f1,f2,f3⟩:=h.blk.f4;have hn:=(((h.blk.ak 0 (.int .u64 0)).ak 1 (.int .u64 0)).ak 2 (.int .u64 0)).ak 3 (.bool true);simp only[pt]at hn;have HN:=qd (And.intro hn (((((Mod.refl [b] w).sl 0 (.int .u64 0)).sl 1 (.int .u64 0)).sl 2 (.int .u64 0)).sl 3 (.bool true)));clear h hn;go_in;go_wp2;go_end0;exact⟨rfl,HN.o⟩
theorem NZ (h:eY w b c)(hd:c.done=false)(e:ay):Calls Tryz.prog 191 #[pQ b,aP e] w λy w'=>y= .returned (.bool (bO e ⟨c.key,0,c.hash⟩))/\Below w.heap.size w w':=by
 have hB:=(Below.refl w.heap.size w).alloc (zb _) (.cells #[nU e.key,nU e.val,nU e.hash] 67);have hE:=aj.new w 67 #[nU e.key,nU e.val,nU e.hash];obtain⟨W,hW⟩:∃W,W=w.alloc (.cells #[nU e.key,nU e.val,nU e.hash] 67):=⟨_,rfl⟩;rw[<-hW]at hB hE;have hC:eY W b c:=h.mod (Mod.of_below hB []) (by simp);obtain⟨c0,c1,c2,c3⟩:=hC.blk.c4;rw[hd]at c3;obtain⟨e0,e1,e2⟩:=hE.c3;have HL:=qd (λV=>kW e ⟨c.key,0,c.hash⟩ V);have HW:=qd hW;have HB:=qd hB;unfold aP at HL|-;simp only[Int.natCast_zero]at HL;clear hW hB hE hC h;go_in;go_upto_region 1 with fail;rw[<-HW.o];refine rT (λ(w':World)=>w'.cell? ⟨w.heap.size,0,none⟩=some (nU e.key)/\w'.cell? ⟨w.heap.size,1,none⟩=some (nU e.val)/\w'.cell? ⟨w.heap.size,2,none⟩=some (nU e.hash)/\w'.cell? ⟨b,0,none⟩=some (nU c.key)/\w'.cell? ⟨b,1,none⟩=some (.int .u64 0)/\w'.cell? ⟨b,2,none⟩=some (nU c.hash)/\w'.cell? ⟨b,3,none⟩=some (.bool false)) [10] ?_;have hHeld:=(⟨e0,e1,e2,c0,c1,c2,c3⟩:_/\_/\_/\_/\_/\_/\_);refine vW 0 rfl ?_;refine vW 1 rfl ?_;refine vW 2 rfl ?_;refine vT 3 rfl ?_;refine vW 4 rfl ?_;refine vT 5 rfl ?_;refine vW 6 rfl ?_;refine vW 7 rfl ?_;refine vW 8 rfl ?_;refine vT 9 rfl ?_;refine nT 10 rfl λK hK=> ?_;go_simp;refine(HL.o _).mono ?_;rintro y W1 ⟨rfl,hb⟩;replace hb:Below W.heap.size W W1:=bN hb (Below.refl _ _).drew;replace HB:=qd (bN hb HB.o);clear hb;go_wp2_with fail;refine kO hK ?_;clear hK K;refine vL 11 rfl ?_;refine vL 12 rfl ?_;refine aV (by kernel_rfl) ?_ _;go_wp2;go_ret;exact⟨rfl,HB.o⟩
theorem Gz (h:eY w b c)(c':jl)(hd:c.done=false)(h0:c'.done=true->c'=⟨0,0,true⟩):Calls Tryz.prog 192 #[pQ b,nU c'.hash,nU c'.key,.bool (!c'.done)] w λy w'=>y= .returned undef/\eY w' b c'/\Mod [b] w w':=by
 have HE:=qd (JX h);obtain⟨c0,c1,c2,c3⟩:=h.blk.c4;obtain⟨f0,f1,f2,f3⟩:=h.blk.f4;have hn:=((h.blk.ak 0 (nU c'.key)).ak 1 (.int .u64 0)).ak 2 (nU c'.hash);simp only[pt]at hn;have HN:=qd (And.intro hn ((((Mod.refl [b] w).sl 0 (nU c'.key)).sl 1 (.int .u64 0)).sl 2 (nU c'.hash)));clear h hn
 cases hc:c'.done with
 |true=>
  have:=h0 hc;subst this;go_in;go_wp2_with fail;refine HE.o.mono ?_;rintro y w1 ⟨rfl,hC,hm⟩;go_wp2;refine bodyPost_ret (vx rfl _ _ _) rfl ?_;exact⟨rfl,hC,hm⟩
 |false=>
  have HD:=qd hd;have HQ:=qd hc;clear hd hc h0;go_in;go_wp2;go_end0;refine⟨rfl, ?_,HN.o.2⟩;have h1:=HN.o.1;unfold eY jl.cells;rw[HQ.o];rw[HD.o]at h1;exact h1
theorem JY {h k:Nat}(hd:(behind h k).done=true):behind h k=⟨0,0,true⟩:=by
 unfold behind at hd|-;split
 ·rename_i h1;rw[if_pos h1]at hd;cases hd
 ·rename_i h1;rw[if_neg h1]at hd;split
  ·rename_i h2;rw[if_pos h2]at hd;cases hd
  ·rfl
theorem RX (h:eY w b c)(hd:c.done=false)(e:ay)(hk:e.key<18446744073709551616)(hh:e.hash<18446744073709551616)(hl:bO e ⟨c.key,0,c.hash⟩=false):Calls Tryz.prog 143 #[pQ b,aP e] w λy w'=>y= .returned .nilIface/\eY w' b (behind e.hash e.key)/\Mod [b] w w':=by
 have hB:=(Below.refl w.heap.size w).alloc (zb _) (.cells #[nU e.key,nU e.val,nU e.hash] 67);have hE:=aj.new w 67 #[nU e.key,nU e.val,nU e.hash];obtain⟨W,hW⟩:∃W,W=w.alloc (.cells #[nU e.key,nU e.val,nU e.hash] 67):=⟨_,rfl⟩;rw[<-hW]at hB hE;have hC:eY W b c:=h.mod (Mod.of_below hB []) (by simp);have xL:=qd (NZ hC hd e);rw[hl]at xL;have TH:=qd (λV=>Gx e hk hh V);have HC:=qd hC;have HE:=qd hE;have HW:=qd hW;have HB:=qd hB;have HD:=qd hd;obtain⟨e0,e1,e2⟩:=hE.c3;unfold aP at xL TH|-;clear hW hB hE hC h hd hl;go_in;go_upto_region 1 with fail;rw[<-HW.o];go_wp2_with fail;refine xL.o.mono ?_;rintro y w1 ⟨rfl,hb⟩;replace HC:=qB hb HC;replace HE:=qB hb HE;replace HB:=qd (bN hb HB.o);clear hb xL e0 e1 e2;obtain⟨e0,e1,e2⟩:=HE.o.c3;go_wp2_with fail;refine(TH.o _).mono ?_;rintro y w2 ⟨rfl,hb⟩;replace HC:=qB hb HC;replace HB:=qd (bN hb HB.o);clear hb TH e0 e1 e2;have HM:=qd (Gz HC.o (behind e.hash e.key) HD.o JY);go_wp2_with fail;refine HM.o.mono ?_;rintro y w3 ⟨rfl,Dp,hm⟩;have nZ:=qd Dp;have OE:=qd ((Mod.of_below HB.o [b]).then hm);clear Dp hm;go_wp2;go_ret;exact⟨rfl,nZ.o,OE.o⟩
theorem RY (h:eY w b c)(hd:c.done=false)(high:Nat)(hh:high<18446744073709551616)(hl:c.hash<=high):Calls Tryz.prog 144 #[pQ b,nU high] w λy w'=>y= .returned .nilIface/\eY w' b (behind high 18446744073709551615)/\Mod [b] w w':=by
 have c2:=h.blk.cell 2;have c3:=h.blk.cell 3;simp only[gl]at c2 c3;rw[hd]at c3
 have hle:¬(high:Int)<(c.hash:Int):=by omega
 have TH:=qd (show∀V,Calls Tryz.prog 193 #[.agg #[.int .u64 18446744073709551615,.int .u64 0,nU high]] V _ from λV=>Gx ⟨18446744073709551615,0,high⟩ (by simp only;omega) hh V);have HC:=qd h;have HD:=qd hd;clear h hd hl;go_in;go_wp2_with fail;refine(TH.o _).mono ?_;rintro y w2 ⟨rfl,hb⟩;replace HC:=qB hb HC;have HB:=qd hb;clear hb TH c2 c3;have HM:=qd (Gz HC.o (behind high 18446744073709551615) HD.o JY);go_wp2_with fail;refine HM.o.mono ?_;rintro y w3 ⟨rfl,Dp,hm⟩;have nZ:=qd Dp;have OE:=qd ((Mod.of_below HB.o [b]).then hm);clear Dp hm;go_wp2;go_ret;exact⟨rfl,nZ.o,OE.o⟩
end
end
section
def gJ (p:Nat×Nat):MapEntry:=⟨.int .i64 (p.1:Int),.pointer (some ⟨p.2,0,none⟩),p.1-1⟩
def iJ (w:World)(b g:Nat)(l:List (Nat×Nat)):Prop:=w.heap[b]?=some (.map (l.map gJ).toArray g)
def nK (l:List (Nat×Nat))(x:Int):Option Nat:=(l.find? λp=>decide ((p.1:Int)=x)).map Prod.snd
def QD (o:Option Nat):Value:= .pointer (o.map λb=>⟨b,0,none⟩)
section
variable {P : Program} {w w' : World} {b g : Nat} {l : List (Nat × Nat)} {t k e : TypeId}
theorem iJ.lt (h:iJ w b g l):b<w.heap.size:=(qi.1 h).1
theorem iJ.mod {S:List Nat}(h:iJ w b g l)(hm:Mod S w w')(hb:b∉S):iJ w' b g l:=(hm.block b h.lt hb).trans h
instance {w w':World}{b g:Nat}{l:List (Nat×Nat)}:Md (iJ w b g l) w w' (iJ w' b g l) (λS=>b∉S):=⟨λh hm hs=>iJ.mod h hm hs⟩
theorem iJ.new (w:World):iJ (w.alloc (.map #[] 0)) w.heap.size 0 []:=by
 exact heap_alloc_new w _
theorem Cy (x:Int):∀(l:List (Nat×Nat)) (i:Nat),∃a,Instr.findNow (.int .i64) (.int .i64 x) (l.map gJ) i=some a/\a.map Prod.snd=(nK l x).map (λb=>Value.pointer (some ⟨b,0,none⟩))/\∀p,a=some p->∃j,p.1=i+j/\(l.map Prod.fst)[j]?.map (λn:Nat=>(n:Int))=some x
 | [],_=>⟨none,rfl,rfl,λ_ h=>by cases h⟩
 |p::l,i=>by
  by_cases hp:(p.1:Int)=x
  ·refine⟨some (i,.pointer (some ⟨p.2,0,none⟩)), ?_, ?_,λq hq=> ?_⟩
   ·subst hp;simp[Instr.findNow,Instr.sameNow,gJ]
   ·unfold nK;rw[List.find?_cons_of_pos (by simpa using hp)];rfl
   ·cases hq;exact⟨0,rfl,by simp[hp]⟩
  ·obtain⟨a,h1,h2,h3⟩:=Cy x l (i+1);refine⟨a, ?_, ?_,λq hq=> ?_⟩
   ·have:((x==(p.1:Int))=false):=by simpa using λh=>hp h.symm
    simp[Instr.findNow,Instr.sameNow,gJ,this]at h1|-;exact h1
   ·unfold nK at h2|-;rw[List.find?_cons_of_neg (by simpa using hp)];exact h2
   ·obtain⟨j,h4,h5⟩:=h3 q hq;exact⟨j+1,by omega,by simpa using h5⟩
theorem FB {x:Int}:IsKey (.int .i64) (.int .i64 x):=by simp[IsKey]
theorem iJ.look (h:iJ w b g l)(ht:P.underlying t=some (.map k e))(hk:P.underlying k=some (.int .i64))(hz:(zeroValue e).run P w= .ok (.pointer none) w)(x:Int):
  (Instr.lookup t (.map (some b)) (.int .i64 x) true).run P w= .ok (.tuple #[QD (nK l x),.bool (nK l x).isSome]) w:=by
 obtain⟨a,h1,h2,_⟩:=Cy x l 0;have h3:=run_findKey (P:=P) (w:=w) hk h1
 cases hf:nK l x with
 |none=>
  rw[hf]at h2
  obtain rfl:a=none:=by cases a with|none=>rfl|some q=>simp at h2
  simp[Instr.lookup,XN ht,k8 (show w.heap[b]?=some (.map (l.map gJ).toArray g)from h),run_checkKey hk FB,h3,hz,Result.andThen,QD]
 |some c=>
  rw[hf]at h2
  cases a with
  |none=>simp at h2
  |some q=>
   obtain⟨i,v⟩:=q;simp at h2;subst h2;simp[Instr.lookup,XN ht,k8 (show w.heap[b]?=some (.map (l.map gJ).toArray g)from h),run_checkKey hk FB,h3,Result.andThen,QD]
theorem xZ {x:Int}:nK l x=none↔∀p∈l,(p.1:Int)≠x:=by
 unfold nK;rw[Option.map_eq_none_iff,j9];simp
theorem Yp {x:Int}{c:Nat}(h:nK l x=some c):∃n:Nat,(n,c)∈l/\(n:Int)=x:=by
 unfold nK at h;rw[yl]at h;obtain⟨p,h1,rfl⟩:=h;have h2:=Vc h1;exact⟨p.1,kh h1,by simpa using h2⟩
theorem iJ.AB (h:iJ w b g l)(o:Obj):Mod [b] w (setBlock w b o):=⟨rfl,rfl,rfl,by simp[setBlock],λk _ hn=>heap_setBlock_other h o (by simpa using hn)⟩
theorem iJ.put (h:iJ w b g l)(ht:P.underlying t=some (.map k e))(hk:P.underlying k=some (.int .i64))(hf:nK l ((g+1:Nat):Int)=none)(c:Nat):
  (Instr.mapUpdate t (.map (some b)) (.int .i64 ((g+1:Nat):Int)) (.pointer (some ⟨c,0,none⟩))).run P w= .ok () (setBlock w b (.map ((l++[(g+1,c)]).map gJ).toArray (g+1))):=by
 obtain⟨a,h1,h2,_⟩:=Cy ((g+1:Nat):Int) l 0;have h3:=run_findKey (P:=P) (w:=w) hk h1;rw[hf]at h2
 obtain rfl:a=none:=by cases a with|none=>rfl|some q=>simp at h2
 rw[show((g+1:Nat):Int)=(g:Int)+1 from by omega]at h3;simp[Instr.mapUpdate,XN ht,k8 (show w.heap[b]?=some (.map (l.map gJ).toArray g)from h),run_checkKey hk FB,h3,Go.MapKept.run_setObj_map _ (show w.heap[b]?=some (.map (l.map gJ).toArray g)from h),Result.andThen,setBlock,gJ]
theorem iJ.ak (h:iJ w b g l)(l':List (Nat×Nat))(g':Nat):iJ (setBlock w b (.map (l'.map gJ).toArray g')) b g' l':=heap_setBlock_same h _
end
end
section
variable {cb id : Nat} {c : jl}
structure It where
 id:Nat
 cb:Nat
 c:jl
def bD (ib mb:Nat)(its:List It):List Nat:=ib::mb::its.map It.cb
def gq (its:List It):List (Nat×Nat):=its.map λi=>(i.id,i.cb)
structure fQ (w:World)(ib mb most given:Nat)(its:List It):Prop where
 blk:aj w ib 141 #[.int .i64 (most:Int),.int .i64 (given:Int),.map (some mb)]
 map:iJ w mb given (gq its)
 cur:∀i∈its,eY w i.cb i.c
 ids:∀i∈its,1<=i.id/\i.id<=given
 nd:(its.map It.id).Nodup
 nf:(bD ib mb its).Nodup
 few:most<=8/\its.length<=most
section
variable {w w' : World} {ib mb most given : Nat} {its : List It}
theorem fQ.fC (h:fQ w ib mb most given its):∀q∈bD ib mb its,q<w.heap.size:=by
 intro q hq;unfold bD at hq;rcases zt.1 hq with rfl|hq
 ·exact h.blk.lt
 ·rcases zt.1 hq with rfl|hq
  ·exact h.map.lt
  ·obtain⟨i,hi,rfl⟩:=Z3.1 hq;exact(h.cur i hi).lt
theorem fQ.mod {S:List Nat}(h:fQ w ib mb most given its)(hm:Mod S w w')(hS:∀q∈bD ib mb its,q∉S):fQ w' ib mb most given its:=
 ⟨h.blk.mod hm (hS _ (by simp[bD])),h.map.mod hm (hS _ (by simp[bD])),λi hi=>(h.cur i hi).mod hm (hS _ (by simp only[bD,zt];exact .inr (.inr (QQ hi)))),h.ids,h.nd,h.nf,h.few⟩
instance {w w':World}{ib mb most given:Nat}{its:List It}:Md (fQ w ib mb most given its) w w' (fQ w' ib mb most given its) (λS=>∀q∈bD ib mb its,q∉S):=⟨λh hm hs=>fQ.mod h hm hs⟩
theorem fQ.below (h:fQ w ib mb most given its)(hb:Below w.heap.size w w'):fQ w' ib mb most given its:=h.mod (Mod.of_below hb []) (by simp)
end
theorem TI (w:World):(zeroValue 195).run Tryz.prog w= .ok (.pointer none) w:=by kernel_rfl
theorem Yq {w:World}{b g:Nat}{l:List (Nat×Nat)}(h:iJ w b g l)(ty:TypeId):(Builtin.len_ #[139] ty #[.map (some b)]).run Tryz.prog w= .ok (.int .i64 (l.length:Int)) w:=by
 have:=run_len_map (P:=Tryz.prog) w 139 ty b _ g (by kernel_rfl) (show w.heap[b]?=some (.map (l.map gJ).toArray g)from h);rw[this];simp[goInt]
theorem Yr (n:Nat)(hn:1<=n/\n<=8)(w:World):Calls Tryz.prog 37 #[.int .i64 (n:Int)] w λy w'=>y= .returned (.tuple #[.pointer (some ⟨(w.heap.size+1),0,none⟩),.nilIface])/\fQ w' (w.heap.size+1) w.heap.size n 0 []/\Below w.heap.size w w':=by
 have h1:¬(n:Int)<1:=by omega
 have h2:¬(n:Int)>8:=by omega
 have hm:∀W:World,(Instr.makeMap 139 none).run Tryz.prog W= .ok (.map (some W.heap.size)) (W.alloc (.map #[] 0)):=λ_=>rfl;have HN:=qd hn;clear hn;go_in;go_wp2;refine bodyPost_ret (v:= .tuple #[.pointer (some ⟨(w.heap.size+1),0,none⟩),.nilIface]) (by simp[results,Tryz.results37,go_sem]) rfl ⟨rfl, ?_, ?_⟩
 ·exact⟨by simpa using aj.new (w.alloc (.map #[] 0)) 141 #[.int .i64 (n:Int),.int .i64 0,.map (some w.heap.size)],(iJ.new w).mod (Mod.of_below ((Below.refl _ _).alloc (zb _) _) []) (by simp),by simp,by simp,by simp,by simp[bD],by have:=HN.o;simp;omega⟩
 ·exact((Below.refl _ _).alloc (zb _) _).alloc (by simp) _
section
variable {w : World} {ib mb most given : Nat} {its : List It}
theorem um {its:List It}(hn:(its.map It.id).Nodup){i j:It}(hi:i∈its)(hj:j∈its)(h:i.id=j.id):i=j:=by
 induction its with
 |nil=>cases hi
 |cons x l ih=>
  rw[ye,qa]at hn;rcases zt.1 hi with h1|h1
  ·rcases zt.1 hj with h2|h2
   ·rw[h1,h2]
   ·exact absurd (show x.id∈l.map It.id from by rw[<-h1,h];exact QQ h2) hn.1
  ·rcases zt.1 hj with h2|h2
   ·exact absurd (show x.id∈l.map It.id from by rw[<-h2,<-h];exact QQ h1) hn.1
   ·exact ih hn.2 h1 h2
theorem abl (hn:(its.map It.id).Nodup)(h:⟨id,cb,c⟩∈its):nK (gq its) (id:Int)=some cb:=by
 cases hf:nK (gq its) (id:Int)with
 |none=>
  exact absurd rfl (xZ.1 hf (id,cb) (Z3.2 ⟨_,h,rfl⟩))
 |some cb'=>
  obtain⟨n,h1,h2⟩:=Yp hf;obtain⟨i,h3,h4⟩:=Z3.1 h1;obtain⟨h5,h6⟩:=Prod.mk.inj h4
  have hid:i.id=id:=by omega
  have:i=⟨id,cb,c⟩:=by
   exact um hn h3 h hid
  rw[this]at h6;exact congrArg some h6.symm
theorem QE (h:fQ w ib mb most given its)(hi:⟨id,cb,c⟩∈its):Calls Tryz.prog 104 #[pQ ib,.int .i64 (id:Int)] w λy w'=>y= .returned (.tuple #[pQ cb,.nilIface])/\w=w':=by
 have hl:=h.map.look (P:=Tryz.prog) (t:=139) Tryz.underlying139 Tryz.underlying3 (TI _) (id:Int);rw[abl h.nd hi]at hl;obtain⟨c0,c1,c2⟩:=h.blk.c3;unfold QD at hl;simp only[vA,Jn]at hl;clear h hi;go_in;go_wp2;refine bodyPost_ret (v:= .tuple #[pQ cb,.nilIface]) (by simp[results,Tryz.results104,go_sem]) rfl ⟨rfl,rfl⟩
theorem fQ.opened {w2:World}(h:fQ w ib mb most given its)(hlt:its.length<most)(hb:aj w2 ib 141 #[.int .i64 (most:Int),.int .i64 ((given:Int)+1),.map (some mb)])(hm:iJ w2 mb (given+1) (gq its++[(given+1,cb)]))(hc:eY w2 cb ⟨0,0,false⟩)(hcb:w.heap.size<=cb)(hmod:Mod [ib,mb] w w2):fQ w2 ib mb most (given+1) (its++[⟨given+1,cb,⟨0,0,false⟩⟩]):=by
 have hl:=h.fC;have hnf:=h.nf
 have agE:∀i∈its,i.cb∉[ib,mb]:=λi hi=>by
  unfold bD at hnf;rw[qa,qa]at hnf;have:=QQ (f:=It.cb) hi;intro hh;rcases zt.1 hh with e|e
  ·exact hnf.1 (qu _ (e▸this))
  ·exact hnf.2.1 (zj.1 e▸this)
 refine⟨hb,by unfold gq at hm|-;rw[jn];exact hm,λi hi=> ?_,λi hi=> ?_, ?_, ?_,h.few.1,by rw[ZD];simp;omega⟩
 ·rcases Zs.1 hi with hi|hi
  ·exact(h.cur i hi).mod hmod (agE i hi)
  ·rw[zj.1 hi];exact hc
 ·rcases Zs.1 hi with hi|hi
  ·have:=h.ids i hi;omega
  ·rw[zj.1 hi];simp
 ·rw[jn,yq];refine⟨h.nd,by simp,λa ha b hb=> ?_⟩;obtain⟨i,hi,rfl⟩:=Z3.1 ha;have:=h.ids i hi;simp at hb;omega
 ·have:bD ib mb (its++[⟨given+1,cb,⟨0,0,false⟩⟩])=bD ib mb its++[cb]:=by simp[bD]
  rw[this,yq];refine⟨h.nf,by simp,λa ha b hb=> ?_⟩;have:=hl a ha;simp at hb;omega
theorem Vz (h:fQ w ib mb most given its)(hlt:its.length<most)(hg:given<=100000):Calls Tryz.prog 76 #[pQ ib] w λy w'=>∃cb,w.heap.size<=cb/\y= .returned (.tuple #[.int .i64 ((given+1:Nat):Int),.nilIface])/\fQ w' ib mb most (given+1) (its++[⟨given+1,cb,⟨0,0,false⟩⟩])/\Mod [ib,mb] w w':=by
 obtain⟨c0,c1,c2⟩:=h.blk.c3;have f1:=h.blk.frozen 1;have hl:=Yq (h.map.mod (Mod.of_below (Below.refl w.heap.size w).drew []) (by simp)) 3
 have hll:(gq its).length=its.length:=by simp[gq]
 rw[hll]at hl
 have hlt':¬(its.length:Int)>=(most:Int):=by omega
 have hw1:IntKind.i64.wrap ((given:Int)+1)=((given+1:Nat):Int):=by rw[ZZ];omega
 have hnew:=((h.blk.ak 1 (.int .i64 ((given:Int)+1)))).drew;have hm:=(((Mod.refl [ib] w).sl 1 (.int .i64 ((given:Int)+1)))).then (Mod.of_below (Below.refl _ _).drew [ib]);simp only[pt]at hnew
 have MS:mb∉[ib]:=λhh=>by have:=h.nf;unfold bD at this;rw[qa]at this;exact this.1 (by rw[zj.1 hh];simp)
 have jJ:=qd (And.intro hnew (And.intro hm (h.map.mod hm MS)));have HH:=qd h;have HLt:=qd hlt;have HMi:=qd MS;clear h hnew hm MS hlt;go_in;go_upto_region 1 with fail;go_region;go_upto_region 4 with fail;refine aY (F:=λv=>aj v ib 141 #[.int .i64 (most:Int),.int .i64 ((given:Int)+1),.map (some mb)]/\Mod [ib] w v/\iJ v mb given (gq its)) jJ.o ?_;clear jJ c0 c1 c2 f1 hl hll;rintro W ⟨hb,hm,hmp⟩;have HB:=qd hb;have HM:=qd hm;have HP:=qd hmp;clear hb hm hmp;have c1:=HB.o.cell 1;have c2:=HB.o.cell 2;simp only[gl]at c1 c2;refine rT (λ(w':World)=>w'.cell? ⟨ib,1,none⟩=some (.int .i64 ((given:Int)+1))/\w'.cell? ⟨ib,2,none⟩=some (.map (some mb))) [9] ?_;have hHeld:=(⟨c1,c2⟩:_/\_);refine vW 0 rfl ?_;refine vW 1 rfl ?_;refine vW 2 rfl ?_;refine vT 3 rfl ?_;refine vW 4 rfl ?_;refine vW 5 rfl ?_;refine vW 6 rfl ?_;refine vT 7 rfl ?_;refine nT 8 rfl λK hK=> ?_;go_simp;refine(Vy _).mono ?_;rintro y W1 ⟨rfl,TJ,hb⟩;have hsz:(World.drew W).heap.size=W.heap.size:=rfl;rw[hsz]at TJ hb|-;replace hb:Below W.heap.size W W1:=bN hb (Below.refl _ _).drew;replace HB:=qB hb HB;replace HP:=qB hb HP;have HS:=qd (show w.heap.size<=W.heap.size from HM.o.size);replace HM:=qd (HM.o.then (Mod.of_below hb [ib]));have HC:=qd TJ;obtain⟨cb,hcb⟩:∃cb,cb=W.heap.size:=⟨_,rfl⟩;rw[<-hcb]at HC HS|-;clear TJ hb hsz c1 c2 hcb;have c1:=HB.o.cell 1;have c2:=HB.o.cell 2;simp only[gl]at c1 c2;go_wp2_with fail;have hHeld:=(⟨c1,c2⟩:_/\_);refine kO hK ?_;clear hK K;refine nT 9 rfl λK hK=> ?_
 have hput:=HP.o.put (P:=Tryz.prog) (t:=139) Tryz.underlying139 Tryz.underlying3 (by
  rw[xZ];intro p hp;obtain⟨i,hi,rfl⟩:=Z3.1 hp;have:=HH.o.ids i hi
  simp only;omega) cb
 have hms:=HP.o.ak (gq its++[(given+1,cb)]) (given+1);have hmm:=HP.o.AB (.map ((gq its++[(given+1,cb)]).map gJ).toArray (given+1))
 have hcm:cb∉[mb]:=λhh=>by have:=HH.o.map.lt;rw[<-zj.1 hh]at this;have:=HS.o;omega
 have him:ib∉[mb]:=λhh=>HMi.o (by rw[zj.1 hh];simp);rw[show((given+1:Nat):Int)=(given:Int)+1 from by omega]at hput;obtain⟨W2,hW2⟩:∃W2,W2=setBlock W1 mb (.map ((gq its++[(given+1,cb)]).map gJ).toArray (given+1)):=⟨_,rfl⟩;rw[<-hW2]at hput hms hmm;have HE:=qd (And.intro (HB.o.mod hmm him) (HH.o.opened HLt.o (HB.o.mod hmm him) hms (HC.o.mod hmm hcm) HS.o (HM.o.trans hmm (λ_ hk _=>by simp at hk|-;exact .inl hk) (λ_ hk _=>by simp at hk|-;exact .inr hk))));have HE2:=qd (HM.o.trans hmm (U:=[ib,mb]) (λ_ hk _=>by simp at hk|-;exact .inl hk) (λ_ hk _=>by simp at hk|-;exact .inr hk));clear hms hmm hcm him hW2 c1 c2;have c1:=HE.o.1.cell 1;simp only[gl]at c1;have HI:=qd (And.intro HE.o.2 HE2.o);clear HE HE2;go_simp;refine kO hK ?_;clear hK K;refine aV (by kernel_rfl) ?_ _;go_wp2;refine bodyPost_ret (v:= .tuple #[.int .i64 ((given:Int)+1),.nilIface]) (by simp[results,Tryz.results76,go_sem]) rfl ⟨cb,HS.o,rfl,HI.o⟩
end
end
