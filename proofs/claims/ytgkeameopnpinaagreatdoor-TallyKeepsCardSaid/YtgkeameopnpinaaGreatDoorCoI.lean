/- The errors of package api as variables of the world; errors.Is of them; their numbers (amblernum.Num, .all). -/
import Derived.Test.YtgkeameopnpinaaGreatDoorProg
import Derived.Test.YtgkeameopnpinaaGreatDoorLaneP
import Derived.WalkKit
import Derived.WalkSpells
import Derived.WalkLawsBesides
import Derived.LaidEql
import Derived.Stop.Asserts
import Derived.RowKitTokens
import Derived.KernelRfl
import Derived.Outline
import Derived.Test.YtgkeameopnpinaaGreatDoorCoO
import Derived.Test.YtgkeameopnpinaaGreatDoorSqM
namespace Go.Proofs.YtgkeameopnpinaaGreatDoor
set_option maxRecDepth 100000
set_option maxHeartbeats 1000000
open Go.RowKit Go.Extern.Stop Go.Stop Go.Extern bY
section
variable {E : Nat → Addr} {w w' : World} {B j : Nat}
theorem Vy (v:Value)(w:World):(Extern.ReflectliteType.typeOf #[.iface 344 v]).run Tryz.prog w= .ok (.iface 244 (.agg #[.pointer (some ⟨16,344,none⟩)])) w:=by kernel_rfl
def aar:Array Value→Sem Value:=Extern.ReflectliteType.method fun t=>do Extern.Rtype.noPackHeld "Comparable" t;pure (.bool (←typeInfo t).comparable)
theorem KQ (w:World):(aar #[.agg #[.pointer (some ⟨16,344,none⟩)]]).run Tryz.prog w= .ok (.bool true) w:=by kernel_rfl
theorem AZ (v:Value)(w:World):(Go.method 495 244 v "Comparable").run Tryz.prog w= .ok (309,v) w:=by kernel_rfl
theorem aas:(Tryz.prog.info? 344).map (·.comparable)=some true:=by kernel_rfl
theorem aat:(Tryz.prog.info? 383).map (·.size)=some 1:=by kernel_rfl
def aeb (a:Addr):Value:= .iface 344 (.pointer (some a))
theorem Zn (a:Addr)(w:World):
  Calls Tryz.prog 64 #[.iface 344 (.pointer (some a)),.iface 344 (.pointer (some a))] w fun e w'=>e= .returned (.bool true)∧w=w':=by
 obtain⟨i,hi,hcmp⟩:=Option.map_eq_some_iff.1 aas;obtain⟨j,hj,hjs⟩:=Option.map_eq_some_iff.1 aat;have h8:=@run_callFunc_extern Tryz.prog 103 _ Extern.ReflectliteType.typeOf Tryz.func103 (by kernel_rfl) (by kernel_rfl) (by kernel_rfl) (by kernel_rfl);have h32:=@run_callFunc_extern Tryz.prog 309 _ aar Tryz.func309 (by kernel_rfl) (by kernel_rfl) (by kernel_rfl) (by kernel_rfl);have tT:=Vy;have cT:=KQ;have mR:=AZ;have heq:=run_eql_iface_ptr_same (P:=Tryz.prog) w a Tryz.underlying28 Tryz.underlying344 hi hcmp hj;go_in;go_wp2;refine wp_loop_rounds 1 ?_;rw[rounds_succ];go_wp2;go_ret;exact⟨rfl,rfl⟩
def gE:Nat→Nat
 |1=>6 |2=>8 |3=>15 |4=>5 |5=>12 |6=>7 |7=>11 |8=>0
 |9=>0|10=>10 |11=>2 |12=>9 |13=>1 |14=>0 |15=>0|_=>13
structure iI (E:Nat→Addr)(w:World):Prop where
 cell:∀k,1≤k→k≤16→w.cell? ⟨gE k,0,none⟩=some (.iface 344 (.pointer (some (E k))))
 obj:∀k,1≤k→k≤16→∃c t,w.heap[(E k).block]?=some (.cells c t (0,0))
 inj:∀j k,1≤j→j≤16→1≤k→k≤16→E j=E k→j=k
theorem iI.of_block (h:iI E w)(hb:∀k,k<w.heap.size→w'.heap[k]?=w.heap[k]?):iI E w':=by
 refine⟨fun k h1 h2=> ?_,fun k h1 h2=> ?_,h.inj⟩
 ·have hc:=h.cell k h1 h2;rw[World.cell?_of_block (w:=w) (hb _ (World.block_lt_of_cell? w _ hc))];exact hc
 ·obtain⟨c,t,ho⟩:=h.obj k h1 h2;have:(E k).block<w.heap.size:=(Array.getElem?_eq_some_iff.1 ho).1;exact⟨c,t,(hb _ this).trans ho⟩
theorem iI.below (h:iI E w)(hb:Below B w w')(hB:w.heap.size≤B):iI E w':=h.of_block fun k hk=>hb.block k (by omega)
theorem iI.alloc (h:iI E w)(o:Obj):iI E (w.alloc o):=h.of_block fun k hk=>Below.heap_alloc w o k hk
theorem iI.drew (h:iI E w):iI E w.drew:=h.of_block fun _ _=>rfl
theorem iI.drewN (h:iI E w)(n:Nat):iI E (w.drewN n):=h.of_block fun _ _=>rfl
def dV (E:Nat→Addr)(w:World)(k:Nat):Prop:=w.cell? ⟨gE k,0,none⟩=some (.iface 344 (.pointer (some (E k))))
theorem dV.of_block (h:dV E w j)(hb:∀k,k<w.heap.size→w'.heap[k]?=w.heap[k]?):dV E w' j:=
 (World.cell?_of_block (hb _ (World.block_lt_of_cell? w _ h))).trans h
theorem dV.below (h:dV E w j)(hb:Below B w w')(hB:w.heap.size≤B):dV E w' j:=h.of_block fun k hk=>hb.block k (by omega)
theorem dV.alloc (h:dV E w j)(o:Obj):dV E (w.alloc o) j:=h.of_block fun k hk=>Below.heap_alloc w o k hk
theorem dV.drewN (h:dV E w j)(n:Nat):dV E (w.drewN n) j:=h.of_block fun _ _=>rfl
theorem iI.at_ (h:iI E w)(k:Nat)(h1:1≤k)(h2:k≤16):dV E w k:=h.cell k h1 h2
def iQ (E:Nat→Addr)(k:Nat):Value:=if k=0 then .nilIface else .iface 344 (.pointer (some (E k)))
theorem R5 (E:Nat→Addr):iQ E 0= .nilIface:=rfl
theorem mJ (E:Nat→Addr){k:Nat}(h:1≤k):iQ E k= .iface 344 (.pointer (some (E k))):=by unfold iQ;rw[if_neg (by omega)]
def acH (E:Nat→Addr):List Value:=(List.range 16).map fun i=> .iface 344 (.pointer (some (E (i+1))))
end
section
def eT (l:List Nat)(es:List av):List Value:= .int .u64 ((w8 l:Nat):Int)::es.flatMap aT
structure bZ (w:World)(gb:Nat)(t:TypeId)(pre post:List Value)(go:Nat)(l:List Nat)(es:List av):Prop where
 len:pre.length=go
 l8:l.length=8
 bytes:Bytes l
 e8:es.length=8
 blk:aj w gb t (pre++(eT l es++post)).toArray
theorem fU (es:List av):(es.flatMap aT).length=3*es.length:=by
 induction es with
 |nil=>rfl
 |cons e es ih=>simp[aT,ih];omega
theorem D9 (es:List av)(i j:Nat)(hi:i<es.length)(hj:j<3):(es.flatMap aT)[3*i+j]?=(aT es[i])[j]?:=by
 induction es generalizing i with
 |nil=>simp at hi
 |cons e es ih=>
  rw[List.flatMap_cons]
  cases i with
  |zero=>rw[List.getElem?_append_left (by simp[aT];omega)];simp
  |succ i=>
   rw[List.getElem?_append_right (by simp[aT];omega)];have:=ih i (by simpa using hi);rw[show 3*(i+1)+j-(aT e).length=3*i+j by simp[aT];omega,this];rfl
theorem KR (es:List av)(i:Nat)(hi:i<es.length)(e:av):(((es.flatMap aT).set (3*i) (nU e.key)).set (3*i+1) (nU e.val)).set (3*i+2) (nU e.hash)=(es.set i e).flatMap aT:=by
 induction es generalizing i with
 |nil=>simp at hi
 |cons x es ih=>
  cases i with
  |zero=>simp[aT]
  |succ i=>
   have h:=ih i (by simpa using hi);have hl:(aT x).length=3:=rfl;rw[List.set_cons_succ,List.flatMap_cons,List.flatMap_cons,←h,List.set_append_right _ _ (by omega),List.set_append_right _ _ (by omega),List.set_append_right _ _ (by omega)];rw[show 3*(i+1)-(aT x).length=3*i by omega,show 3*(i+1)+1-(aT x).length=3*i+1 by omega,show 3*(i+1)+2-(aT x).length=3*i+2 by omega]
section
variable {w w' : World} {gb go : Nat} {t : TypeId} {pre post : List Value} {l : List Nat} {es : List av}
theorem bZ.lt (h:bZ w gb t pre post go l es):gb<w.heap.size:=h.blk.lt
theorem bZ.tF (h:bZ w gb t pre post go l es)(i:Nat):w.frozen? ⟨gb,i,none⟩=false:=h.blk.frozen i
theorem bZ.mod {S:List Nat}(h:bZ w gb t pre post go l es)(hm:Mod S w w')(hg:gb∉S):bZ w' gb t pre post go l es:=⟨h.len,h.l8,h.bytes,h.e8,h.blk.mod hm hg⟩
instance {w w':World}{gb:Nat}{t:TypeId}{pre post:List Value}{go:Nat}{l:List Nat}{es:List av}:Md (bZ w gb t pre post go l es) w w' (bZ w' gb t pre post go l es) (fun S=>gb∉S):=⟨fun h hm hs=>h.mod hm hs⟩
theorem bZ.below (h:bZ w gb t pre post go l es)(hb:Below w.heap.size w w'):bZ w' gb t pre post go l es:=⟨h.len,h.l8,h.bytes,h.e8,h.blk.below hb h.lt⟩
theorem bZ.alloc (h:bZ w gb t pre post go l es)(o:Obj):bZ (w.alloc o) gb t pre post go l es:=h.below ((Below.refl _ _).alloc (Nat.le_refl _) o)
theorem bZ.word (h:bZ w gb t pre post go l es):w.cell? ⟨gb,go,none⟩=some (.int .u64 ((w8 l:Nat):Int)):=by
 rw[h.blk.cell,List.getElem?_toArray,List.getElem?_append_right (by have:=h.len;omega)];simp[eT,h.len]
theorem bZ.at_ (h:bZ w gb t pre post go l es)(i j:Nat)(hi:i<8)(hj:j<3):w.cell? ⟨gb,go+1+i*3+j,none⟩=(aT (es.getD i ⟨0,0,0⟩))[j]?:=by
 have h8:i<es.length:=by have:=h.e8;omega
 rw[h.blk.cell,List.getElem?_toArray,List.getElem?_append_right (by have:=h.len;omega),List.getElem?_append_left (by have:=h.len;rw[eT,List.length_cons,fU];omega)];rw[show go+1+i*3+j-pre.length=(3*i+j)+1 by have:=h.len;omega,eT,List.getElem?_cons_succ,D9 es i j h8 hj,bY.getD_in h8]
theorem bZ.Zo (h:bZ w gb t pre post go l es)(i:Nat)(hi:i<8)(v:Nat):bZ (w.setCell ⟨gb,go+1+i*3+1,none⟩ (nU v)) gb t pre post go l (es.set i {es.getD i ⟨0,0,0⟩with val:=v}):=by
 have h8:i<es.length:=by have:=h.e8;omega
 refine⟨h.len,h.l8,h.bytes,by rw[List.length_set];exact h.e8, ?_⟩;have:=h.blk.ak (go+(3*i+1+1)) (nU v);rw[←h.len,set_mid _ _ _ _ _ (by rw[eT,List.length_cons,fU];omega)]at this;rw[eT,List.set_cons_succ]at this;have e1:=KR es i h8 {es.getD i ⟨0,0,0⟩with val:=v};have g0:=D9 es i 0 h8 (by omega);have g2:=D9 es i 2 h8 (by omega);rw[bY.getD_in h8]at e1⊢;simp only[aT,Nat.add_zero,List.getElem?_cons_zero,List.getElem?_cons_succ]at g0 g2
 have hk:(es.flatMap aT).set (3*i) (.int .u64 (es[i].key:Int))=es.flatMap aT:=by
  apply List.ext_getElem?;intro k;rw[List.getElem?_set];split
  ·next hk=>subst hk;rw[if_pos (by rw[fU];omega),g0]
  ·rfl
 have hh:((es.flatMap aT).set (3*i+1) (nU v)).set (3*i+2) (.int .u64 (es[i].hash:Int))=(es.flatMap aT).set (3*i+1) (nU v):=by
  apply List.ext_getElem?;intro k;rw[List.getElem?_set];split
  ·next hk=>subst hk;rw[if_pos (by rw[List.length_set,fU];omega),List.getElem?_set_ne (by omega),g2]
  ·rfl
 dsimp only at e1;rw[hk,hh]at e1;rw[e1]at this;rw[←h.len];rw[show pre.length+1+i*3+1=pre.length+(3*i+1+1) by omega];exact this
theorem bZ.Vz (h:bZ w gb t pre post go l es)(i b:Nat)(hb:b<256):bZ (w.setCell ⟨gb,go,none⟩ (.int .u64 ((w8 (l.set i b):Nat):Int))) gb t pre post go (l.set i b) es:=by
 refine⟨h.len,by rw[List.length_set];exact h.l8,fun x hx=> ?_,h.e8, ?_⟩
 ·rcases List.mem_or_eq_of_mem_set hx with hx|rfl
  ·exact h.bytes x hx
  ·exact hb
 ·have:=h.blk.ak (go+0) (.int .u64 ((w8 (l.set i b):Nat):Int));rw[←h.len,set_mid _ _ _ _ _ (by simp[eT])]at this;rw[←h.len];exact this
theorem bZ.GI (h:bZ w gb t pre post go l es)(i:Nat)(hi:i<8)(e:av):bZ (((w.setCell ⟨gb,go+1+i*3,none⟩ (nU e.key)).setCell ⟨gb,go+1+i*3+1,none⟩ (nU e.val)).setCell ⟨gb,go+1+i*3+2,none⟩ (nU e.hash)) gb t pre post go l (es.set i e):=by
 have h8:i<es.length:=by have:=h.e8;omega
 refine⟨h.len,h.l8,h.bytes,by rw[List.length_set];exact h.e8, ?_⟩;have:=((h.blk.ak (go+(3*i+1)) (nU e.key)).ak (go+(3*i+1+1)) (nU e.val)).ak (go+(3*i+2+1)) (nU e.hash);rw[←h.len,set_mid _ _ _ _ _ (by rw[eT,List.length_cons,fU];omega),set_mid _ _ _ _ _ (by rw[List.length_set,eT,List.length_cons,fU];omega),set_mid _ _ _ _ _ (by rw[List.length_set,List.length_set,eT,List.length_cons,fU];omega)]at this;rw[eT,List.set_cons_succ,List.set_cons_succ,List.set_cons_succ,KR es i h8 e]at this;rw[←h.len];rw[show pre.length+1+i*3=pre.length+(3*i+1) by omega,show pre.length+(3*i+1)+1=pre.length+(3*i+1+1) by omega,show pre.length+(3*i+1)+2=pre.length+(3*i+2+1) by omega];exact this
end
theorem nK (gb:Nat)(t:TypeId)(pre post:List Value)(go:Nat)(l:List Nat)(es:List av)(i:Nat)(hi:i<8)(must:Bool)(w:World)(h:bZ w gb t pre post go l es)(hm:decide (l.getD i 0<128)=must):
  Calls Tryz.prog 228 #[bq ⟨gb,go,none⟩,nI i,.bool must] w fun e w'=>e= .returned .nilIface∧Below w.heap.size w w':=by
 have HG:=qd (D5 l h.bytes i hi);have hw:=(h.alloc (.cells #[.pointer (some ⟨gb,go,none⟩)] 219)).word
 have h1:¬(i:Int)<0:=by omega
 have h2:¬(i:Int)≥8:=by omega
 unfold bq;clear h;generalize l.getD i 0=b at*
 have hc:decide ((b:Int)<128)=must:=by rw[←hm];exact decide_eq_decide.2 (by omega)
 clear hm;cases must
 case' true=>
  have hc':(b:Int)<128:=by simpa using hc
 case' false=>
  have hc':¬(b:Int)<128:=by simpa using hc
 all_goals
  clear hc;go_in;go_wp2_with (first|(refine(HG.out _).mono ?_;rintro e w1 ⟨rfl,rfl⟩));go_ret;exact⟨rfl,(Below.refl _ _).alloc (Nat.le_refl _) _⟩
theorem KS (gb:Nat)(t:TypeId)(pre post:List Value)(go:Nat)(l:List Nat)(es:List av)(i:Nat)(hi:i<8)(w:World)(h:bZ w gb t pre post go l es)(hm:¬l.getD i 0<128)(E:Nat→Addr)(hE:dV E w 5):
  Calls Tryz.prog 228 #[bq ⟨gb,go,none⟩,nI i,.bool true] w fun e w'=>e= .returned (.iface 344 (.pointer (some (E 5))))∧Below w.heap.size w w':=by
 have HG:=qd (D5 l h.bytes i hi);have hw:=(h.alloc (.cells #[.pointer (some ⟨gb,go,none⟩)] 219)).word;have hE':(w.alloc (.cells #[.pointer (some ⟨gb,go,none⟩)] 219)).cell? ⟨12,0,none⟩=some (.iface 344 (.pointer (some (E 5)))):=hE.alloc _
 have h1:¬(i:Int)<0:=by omega
 have h2:¬(i:Int)≥8:=by omega
 unfold bq;clear h hE;generalize l.getD i 0=b at*
 have hc':¬(b:Int)<128:=by omega
 have hd':decide ((b:Int)<128)=false:=decide_eq_false hc';clear hm;go_in;go_wp2_with (first|(refine(HG.out _).mono ?_;rintro e w1 ⟨rfl,rfl⟩));go_ret;exact⟨rfl,(Below.refl _ _).alloc (Nat.le_refl _) _⟩
theorem KT (gb:Nat)(t:TypeId)(pre post:List Value)(go:Nat)(l:List Nat)(es:List av)(i:Nat)(hi:i<8)(w:World)(h:bZ w gb t pre post go l es)(hm:l.getD i 0<128):
  Calls Tryz.prog 193 #[bq ⟨gb,go,none⟩,nI i] w fun e w'=>e= .returned (.tuple #[aO (es.getD i ⟨0,0,0⟩),.bool true])∧Below w.heap.size w w':=by
 have hB:=((Below.refl w.heap.size w).alloc (Nat.le_refl _) (.cells #[.pointer (some ⟨gb,go,none⟩)] 219)).alloc (by simp) (.cells #[.int .u64 0,.int .u64 0,.int .u64 0] 159);have hV:=(aj.new w 219 #[.pointer (some ⟨gb,go,none⟩)]).alloc (.cells #[.int .u64 0,.int .u64 0,.int .u64 0] 159);have hD:=aj.new (w.alloc (.cells #[.pointer (some ⟨gb,go,none⟩)] 219)) 159 #[.int .u64 0,.int .u64 0,.int .u64 0];rw[World.size_alloc]at hD;obtain⟨W,hW⟩:∃W,W=(w.alloc (.cells #[.pointer (some ⟨gb,go,none⟩)] 219)).alloc (.cells #[.int .u64 0,.int .u64 0,.int .u64 0] 159):=⟨_,rfl⟩;rw[←hW]at hB hD hV;have hG:=h.below hB;have HF:=qd (nK gb t pre post go l es i hi true W hG (decide_eq_true hm));have HW:=qd hW;have Al:i<8:=hi;have e0:=hG.at_ i 0 hi (by omega);rw[Nat.add_zero]at e0;have e1:=hG.at_ i 1 hi (by omega);have e2:=hG.at_ i 2 hi (by omega);unfold bq at HF⊢;unfold aO;clear hW hG h hi;generalize es.getD i ⟨0,0,0⟩=x at*;simp only[aT,List.getElem?_cons_zero,List.getElem?_cons_succ]at e0 e1 e2;go_in;go_wp2_with fail;rw[←HW.out];have v0:=hV.cell 0;simp only[List.getElem?_toArray,List.getElem?_cons_zero]at v0;go_wp2_with fail;refine(HF.out).mono ?_;rintro e w1 ⟨rfl,hb⟩;replace v0:=aD hb v0;replace e0:=aD hb e0;replace e1:=aD hb e1;replace e2:=aD hb e2;have hD1:=hD.below hb hD.lt;obtain⟨f0,f1,f2⟩:=hD1.f3;obtain⟨d0,d1,d2⟩:=hD1.c3;have hB1:=qd (bR hb hB);clear hb hB hD hV;go_wp2
 refine bodyPost_ret (v:= .tuple #[.agg #[nU x.key,nU x.val,nU x.hash],.bool true]) ?_ rfl ⟨rfl, ?_⟩
 ·simp[results,Tryz.results193,go_sem,d0,d1,d2]
 ·repeat (with_reducible first|exact hB1.out|refine Below.setCell ?_ ?_ _)
  all_goals (simp;try omega)
end
theorem Qf (gb:Nat)(t:TypeId)(pre post:List Value)(go:Nat)(l:List Nat)(es:List av)(i:Nat)(hi:i<8)(w:World)(h:bZ w gb t pre post go l es)(hm:¬l.getD i 0<128)(E:Nat→Addr)(hE:dV E w 5):
  Calls Tryz.prog 193 #[bq ⟨gb,go,none⟩,nI i] w fun e w'=>e= .returned (.tuple #[aO ⟨0,0,0⟩,.bool false])∧Below w.heap.size w w':=by
 obtain⟨W,hW,hB,hV,hD⟩:=jZ w 219 #[.pointer (some ⟨gb,go,none⟩)] 159 #[.int .u64 0,.int .u64 0,.int .u64 0];have HF:=qd (KS gb t pre post go l es i hi W (h.below hB) hm E (hE.below hB (Nat.le_refl _)));have HW:=qd hW;unfold bq at HF⊢;unfold aO;clear hW h hi hE hm;go_in;go_wp2_with fail;rw[←HW.out];have v0:=hV.cell 0;simp only[List.getElem?_toArray,List.getElem?_cons_zero]at v0;go_wp2_with fail;refine(HF.out).mono ?_;rintro e w1 ⟨rfl,hb⟩;have hD1:=hD.below hb hD.lt;obtain⟨d0,d1,d2⟩:=hD1.c3;obtain⟨f0,f1,f2⟩:=hD1.f3;have hB1:=qd (bR hb hB);clear hb hB hD hV;go_wp2;refine bodyPost_ret (v:= .tuple #[.agg #[.int .u64 0,.int .u64 0,.int .u64 0],.bool false]) ?_ rfl ⟨rfl, ?_⟩
 ·simp[results,Tryz.results193,go_sem,d0,d1,d2]
 ·repeat (with_reducible first|exact hB1.out|refine Below.setCell ?_ ?_ _)
  all_goals (simp;try omega)
theorem R6 (gb:Nat)(t:TypeId)(pre post:List Value)(go:Nat)(l:List Nat)(es:List av)(w:World)(h:bZ w gb t pre post go l es)(hT:fG w):
  Calls Tryz.prog 190 #[bq ⟨gb,go,none⟩] w fun e w'=>e= .returned (.int .i64 (sw (firstM (l.map dY))))∧Below w.heap.size w w':=by
 have hg:=(World.block_lt_of_cell? w _ (hT 0 (by omega)));have hB:=(Below.refl w.heap.size w).alloc (Nat.le_refl _) (.cells #[.pointer (some ⟨gb,go,none⟩)] 219);have hV:=aj.new w 219 #[.pointer (some ⟨gb,go,none⟩)];obtain⟨W,hW⟩:∃W,W=w.alloc (.cells #[.pointer (some ⟨gb,go,none⟩)] 219):=⟨_,rfl⟩;rw[←hW]at hB hV;have hG:=h.below hB;have hT1:fG W:=fun i hi=>(hB.cell (p:=⟨14,oq i,none⟩) hg).trans (hT i hi);have H1:=qd (P5 l h.l8 h.bytes);have H2:=qd (PY (l.map dY) (by simpa using h.l8) (pO l).bytes W hT1);rw[tq (pO l)]at H2;have HW:=qd hW;have hw:=hG.word;have v0:=hV.cell 0;simp only[List.getElem?_toArray,List.getElem?_cons_zero]at v0;have HB:=qd hB;unfold bq;clear hW h hT hT1 hG hB hV;go_in;go_upto_region 1 with fail;rw[←HW.out];go_wp2_with fail;refine(H1.out _).mono ?_;rintro e w1 ⟨rfl,rfl⟩;go_wp2_with fail;refine H2.out.mono ?_;rintro e w1 ⟨rfl,rfl⟩;go_wp2;go_ret;exact⟨rfl,HB.out⟩
theorem R7 {l:List Nat}:(((w8 (l.map (ku 128)):Nat):Int) !=0)=l.any (·==128):=by
 cases hb:l.any (·==128)with
 |true=>
  rw[bne_iff_ne];intro h0;obtain⟨x,hx,he⟩:=List.any_eq_true.1 hb;have:=(yF _).1 (by omega:w8 (l.map (ku 128))=0) (ku 128 x) (List.mem_map_of_mem hx);rw[beq_iff_eq]at he;subst he;simp[ku]at this
 |false=>
  rw[bne_eq_false_iff_eq]
  have:w8 (l.map (ku 128))=0:=(yF _).2 fun b hx=>by
   obtain⟨y,hy,rfl⟩:=List.mem_map.1 hx;have:=List.any_eq_false.1 hb y hy;unfold ku;rw[if_neg (by simpa using this)]
  omega
theorem A8 (gb:Nat)(t:TypeId)(pre post:List Value)(go:Nat)(l:List Nat)(es:List av)(w:World)(h:bZ w gb t pre post go l es):
  Calls Tryz.prog 192 #[bq ⟨gb,go,none⟩] w fun e w'=>e= .returned (.bool (l.any (·==128)))∧Below w.heap.size w w':=by
 have hB:=(Below.refl w.heap.size w).alloc (Nat.le_refl _) (.cells #[.pointer (some ⟨gb,go,none⟩)] 219);have hV:=aj.new w 219 #[.pointer (some ⟨gb,go,none⟩)];obtain⟨W,hW⟩:∃W,W=w.alloc (.cells #[.pointer (some ⟨gb,go,none⟩)] 219):=⟨_,rfl⟩;rw[←hW]at hB hV;have hG:=h.below hB;have H1:=qd (KI l h.l8 h.bytes);have HO:=qd (R7 (l:=l));have HW:=qd hW;have hw:=hG.word;have v0:=hV.cell 0;simp only[List.getElem?_toArray,List.getElem?_cons_zero]at v0;have HB:=qd hB;unfold bq;clear hW h hG hB hV;generalize w8 (l.map (ku 128))=m at*;generalize l.any (·==128)=o at*;go_in;go_upto_region 1 with fail;rw[←HW.out];go_wp2_with fail;refine(H1.out _).mono ?_;rintro e w1 ⟨rfl,rfl⟩;have ho:=HO.out;go_wp2;go_ret;exact⟨rfl,HB.out⟩
theorem Ba (gb:Nat)(t:TypeId)(pre post:List Value)(go:Nat)(l:List Nat)(es:List av)(i b:Nat)(hi:i<8)(pR:b<256)(hb:b≤128∨b=254)(w:World)(h:bZ w gb t pre post go l es):
  Calls Tryz.prog 230 #[bq ⟨gb,go,none⟩,nI i,.int .u8 (b:Int)] w fun e w'=>e= .returned undef∧bZ w' gb t pre post go (l.set i b) es∧Mod [gb] w w':=by
 have hB:=(Below.refl w.heap.size w).alloc (Nat.le_refl _) (.cells #[.pointer (some ⟨gb,go,none⟩)] 219);have hV:=aj.new w 219 #[.pointer (some ⟨gb,go,none⟩)];obtain⟨W,hW⟩:∃W,W=w.alloc (.cells #[.pointer (some ⟨gb,go,none⟩)] 219):=⟨_,rfl⟩;rw[←hW]at hB hV;have hG:=h.below hB;have hlt:=h.lt;have H1:=qd (Vo l h.l8 h.bytes i b hi pR hb);have HW:=qd hW;have hw:=hG.word;have v0:=hV.cell 0;simp only[List.getElem?_toArray,List.getElem?_cons_zero]at v0;have HB:=qd hB;unfold bq;clear hW h hB hV hi hb;go_in;go_upto_region 1 with fail;rw[←HW.out];go_wp2_with fail;refine(H1.out _).mono ?_;rintro e w1 ⟨rfl,n,rfl⟩;have hf:=hG.tF go;have HS:=qd (show bZ (W.drewN n) gb t pre post go l es from⟨hG.len,hG.l8,hG.bytes,hG.e8,hG.blk.drewN n⟩);clear hG;go_wp2;go_end0;exact⟨rfl,HS.out.Vz i b pR,((Mod.of_below HB.out [gb]).then (Mod.drewN [gb] W n)).ak (.inl (by simp)) _ _⟩
theorem bZ.drew {w:World}{gb go:Nat}{t:TypeId}{pre post:List Value}{l:List Nat}{es:List av}(h:bZ w gb t pre post go l es):bZ w.drew gb t pre post go l es:=⟨h.len,h.l8,h.bytes,h.e8,h.blk.drew⟩
theorem VA (gb:Nat)(t:TypeId)(pre post:List Value)(go:Nat)(l:List Nat)(es:List av)(i:Nat)(hi:i<8)(e:av)(h64:e.hash<18446744073709551616)(w:World)(h:bZ w gb t pre post go l es)(hm:¬l.getD i 0<128):
  Calls Tryz.prog 196 #[bq ⟨gb,go,none⟩,nI i,aO e] w fun x w'=>x= .returned (.tuple #[.bool (l.getD i 0==254),.nilIface])∧bZ w' gb t pre post go (l.set i (e.hash % 128)) (es.set i e)∧Mod [gb] w w':=by
 obtain⟨W,hW,hB,hV,hE⟩:=jZ w 219 #[.pointer (some ⟨gb,go,none⟩)] 159 #[nU e.key,nU e.val,nU e.hash];have hG:=h.below hB;have hlt:=h.lt;have HF:=qd (nK gb t pre post go l es i hi false W hG (decide_eq_false hm));have HGt:=qd (D5 l h.bytes i hi);have H2:=qd (KM e.hash h64);have HM:=qd (fun(u:World) (hu:bZ u gb t pre post go l (es.set i e))=>Ba gb t pre post go l (es.set i e) i (e.hash % 128) hi (by omega) (.inl (by omega)) u hu)
 have Al:(i:Int)<8:=by omega
 have hi0:(0:Int)≤(i:Int):=by omega
 have HO:∀b:Nat,(((b:Nat):Int)==254)=(b==254):=fun b=>by rw[Bool.eq_iff_iff,beq_iff_eq,beq_iff_eq];omega
 have Am:=qd (HO (l.getD i 0));have HW:=qd hW;have HB:=qd hB
 have hne:gb≠w.heap.size:=by omega
 have hne1:gb≠w.heap.size+1:=by omega
 unfold bq at HF HM⊢;unfold aO;clear hW h hB hm HO;generalize(l.getD i 0==254)=o at*;generalize l.getD i 0=b at*;go_in;go_upto_region 1 with fail;rw[←HW.out];have v0:=hV.cell 0;simp only[List.getElem?_toArray,List.getElem?_cons_zero]at v0;go_wp2_with fail;refine(HF.out).mono ?_;rintro e w1 ⟨rfl,hb⟩;replace hG:=hG.below hb;have hE1:=hE.below hb hE.lt;replace v0:=aD hb v0;have hw:=hG.word;obtain⟨e0,e1,e2⟩:=hE1.c3;go_wp2_with fail;refine(HGt.out _).mono ?_;rintro e w2 ⟨rfl,rfl⟩;have ho:=Am.out;go_upto_region 5 with fail;have s0:=hG.at_ i 0 hi (by omega);have s1:=hG.at_ i 1 hi (by omega);have s2:=hG.at_ i 2 hi (by omega);rw[Nat.add_zero]at s0;simp only[aT,List.getElem?_cons_zero,List.getElem?_cons_succ]at s0 s1 s2;have g0:=hG.tF (go+1+i*3);have g1:=hG.tF (go+1+i*3+1);have g2:=hG.tF (go+1+i*3+2);refine rT (fun w'=>w'=World.drew w1) [7] ?_;have hHeld:(fun w'=>w'=World.drew w1) (World.drew w1):=rfl;refine vW 0 rfl ?_;refine vT 1 rfl ?_;refine vW 2 rfl ?_;refine vT 3 rfl ?_;refine vW 4 rfl ?_;refine vW 5 rfl ?_;refine vW 6 rfl ?_;refine nT 7 rfl fun K hK=> ?_;go_simp;refine kO hK ?_;clear hK K;refine aQ (by kernel_rfl) ?_ _;obtain⟨w2,hw2⟩:∃w2,w2=(((w1.setCell ⟨gb,go+1+i*3,none⟩ (nU e.key)).setCell ⟨gb,go+1+i*3+1,none⟩ (nU e.val)).setCell ⟨gb,go+1+i*3+2,none⟩ (nU e.hash)).drew:=⟨_,rfl⟩;rw[←hw2];have hG2:bZ w2 gb t pre post go l (es.set i e):=hw2▸(hG.GI i hi e).drew
 have hV2:aj w2 w.heap.size 219 #[.pointer (some ⟨gb,go,none⟩)]:=by
  rw[hw2];exact(((aj.far (hV.below hb hV.lt) (p:=⟨gb,go+1+i*3,none⟩) (Ne.symm hne) _).far (p:=⟨gb,go+1+i*3+1,none⟩) (Ne.symm hne) _).far (p:=⟨gb,go+1+i*3+2,none⟩) (Ne.symm hne) _).drew
 have hE2:aj w2 (w.heap.size+1) 159 #[nU e.key,nU e.val,nU e.hash]:=by
  rw[hw2];exact(((hE1.far (p:=⟨gb,go+1+i*3,none⟩) (Ne.symm hne1) _).far (p:=⟨gb,go+1+i*3+1,none⟩) (Ne.symm hne1) _).far (p:=⟨gb,go+1+i*3+2,none⟩) (Ne.symm hne1) _).drew
 have hM2:Mod [gb] w w2:=by
  rw[hw2];exact((((((Mod.of_below HB.out [gb]).then (Mod.of_below hb [gb])).ak (.inl (by simp)) _ _).ak (.inl (by simp)) _ _).ak (.inl (by simp)) _ _)).then (Mod.drewN [gb] _ 1)
 have HW2:=qd (And.intro hG2 hM2);clear hw2 hG2 hM2 v0 hw e0 e1 e2 s0 s1 s2 g0 g1 g2 hE1 hb hE hV hG;go_upto_region 6 with fail;have v0:=hV2.cell 0;have e2:=hE2.cell 2;simp only[gl]at v0 e2;refine rT (fun w'=>w'=World.drew w2) [5] ?_;have hHeld:(fun w'=>w'=World.drew w2) (World.drew w2):=rfl;refine vT 0 rfl ?_;refine vW 1 rfl ?_;refine vW 2 rfl ?_;refine vT 3 rfl ?_;refine nT 4 rfl fun K hK=> ?_;go_simp;refine(H2.out _).mono ?_;rintro e w1 ⟨rfl,rfl⟩;go_wp2_with fail;have hHeld:=show(fun w'=>w'=World.drew w2) _ from rfl;refine kO hK ?_;clear hK K;refine nT 5 rfl fun K hK=> ?_;go_simp;refine(HM.out _ HW2.out.1.drew).mono ?_;rintro e w3 ⟨rfl,hG3,gB⟩;have HG3:=qd hG3;have KU:=qd gB;clear hG3 gB;go_wp2_with fail;refine kO hK ?_;clear hK K;refine aQ (by kernel_rfl) ?_ _;go_wp2;refine bodyPost_ret (v:= .tuple #[.bool o,.nilIface]) (by simp[results,Tryz.results196,go_sem]) rfl ⟨rfl,HG3.out,(HW2.out.2.then (Mod.drewN [gb] _ 1)).then KU.out⟩
theorem VB (gb:Nat)(t:TypeId)(pre post:List Value)(go:Nat)(l:List Nat)(es:List av)(i:Nat)(hi:i<8)(v:Nat)(w:World)(h:bZ w gb t pre post go l es)(hm:l.getD i 0<128):
  Calls Tryz.prog 194 #[bq ⟨gb,go,none⟩,nI i,nU v] w fun x w'=>x= .returned .nilIface∧bZ w' gb t pre post go l (es.set i {es.getD i ⟨0,0,0⟩with val:=v})∧Mod [gb] w w':=by
 have hB:=(Below.refl w.heap.size w).alloc (Nat.le_refl _) (.cells #[.pointer (some ⟨gb,go,none⟩)] 219);have hV:=aj.new w 219 #[.pointer (some ⟨gb,go,none⟩)];obtain⟨W,hW⟩:∃W,W=w.alloc (.cells #[.pointer (some ⟨gb,go,none⟩)] 219):=⟨_,rfl⟩;rw[←hW]at hB hV;have hG:=h.below hB;have HF:=qd (nK gb t pre post go l es i hi true W hG (decide_eq_true hm))
 have Al:(i:Int)<8:=by omega
 have hi0:(0:Int)≤(i:Int):=by omega
 have HW:=qd hW;have HB:=qd hB;unfold bq at HF⊢;clear hW h hB hm;go_in;go_upto_region 1 with fail;rw[←HW.out];have v0:=hV.cell 0;simp only[List.getElem?_toArray,List.getElem?_cons_zero]at v0;go_wp2_with fail;refine(HF.out).mono ?_;rintro e w1 ⟨rfl,hb⟩;replace hG:=hG.below hb;replace v0:=aD hb v0;have s1:=hG.at_ i 1 hi (by omega);simp only[aT,List.getElem?_cons_zero,List.getElem?_cons_succ]at s1;have g1:=hG.tF (go+1+i*3+1);have HG1:=qd (hG.Zo i hi v);have R8:=qd (((Mod.of_below HB.out [gb]).then (Mod.of_below hb [gb])).sl (go+1+i*3+1) (nU v));clear hG hb hV;go_wp2;go_ret;exact⟨rfl,HG1.out,R8.out⟩
theorem E8 (gb:Nat)(t:TypeId)(pre post:List Value)(go:Nat)(l:List Nat)(es:List av)(i:Nat)(hi:i<8)(w:World)(h:bZ w gb t pre post go l es)(hm:l.getD i 0<128)(ho:l.any (·==128)=true):
  Calls Tryz.prog 235 #[bq ⟨gb,go,none⟩,nI i] w fun x w'=>x= .returned (.tuple #[.bool false,.nilIface])∧bZ w' gb t pre post go (l.set i 128) (es.set i ⟨0,0,0⟩)∧Mod [gb] w w':=by
 have hB:=(Below.refl w.heap.size w).alloc (Nat.le_refl _) (.cells #[.pointer (some ⟨gb,go,none⟩)] 219);have hV:=aj.new w 219 #[.pointer (some ⟨gb,go,none⟩)];obtain⟨W,hW⟩:∃W,W=w.alloc (.cells #[.pointer (some ⟨gb,go,none⟩)] 219):=⟨_,rfl⟩;rw[←hW]at hB hV;have hG:=h.below hB;have hlt:=h.lt;have HF:=qd (nK gb t pre post go l es i hi true W hG (decide_eq_true hm))
 have Al:(i:Int)<8:=by omega
 have hi0:(0:Int)≤(i:Int):=by omega
 have hne:gb≠w.heap.size:=by omega
 have HW:=qd hW;have HB:=qd hB;unfold bq at HF⊢;clear hW h hB hm;have HM:=qd (fun(u:World) (hu:bZ u gb t pre post go l (es.set i ⟨0,0,0⟩))=>Ba gb t pre post go l (es.set i ⟨0,0,0⟩) i 128 hi (by omega) (by omega) u hu);unfold bq at HM;go_in;go_upto_region 1 with fail;rw[←HW.out];have v0:=hV.cell 0;simp only[List.getElem?_toArray,List.getElem?_cons_zero]at v0;go_wp2_with fail;refine(HF.out).mono ?_;rintro e w1 ⟨rfl,hb⟩;replace hG:=hG.below hb;replace hV:=hV.below hb hV.lt;replace v0:=aD hb v0;have HO:=qd (A8 gb t pre post go l es w1 hG);rw[ho]at HO;unfold bq at HO;go_wp2_with fail;refine(HO.out).mono ?_;rintro e w2 ⟨rfl,hb2⟩;replace hG:=hG.below hb2;replace hV:=hV.below hb2 hV.lt;replace v0:=aD hb2 v0;have s0:=hG.at_ i 0 hi (by omega);have s1:=hG.at_ i 1 hi (by omega);have s2:=hG.at_ i 2 hi (by omega);rw[Nat.add_zero]at s0;simp only[aT,List.getElem?_cons_zero,List.getElem?_cons_succ]at s0 s1 s2;have g0:=hG.tF (go+1+i*3);have g1:=hG.tF (go+1+i*3+1);have g2:=hG.tF (go+1+i*3+2);go_upto_region 6 with fail;obtain⟨w3,hw3⟩:∃w3,w3=((w2.setCell ⟨gb,go+1+i*3,none⟩ (.int .u64 0)).setCell ⟨gb,go+1+i*3+1,none⟩ (.int .u64 0)).setCell ⟨gb,go+1+i*3+2,none⟩ (.int .u64 0):=⟨_,rfl⟩;rw[←hw3];have hG3:bZ w3 gb t pre post go l (es.set i ⟨0,0,0⟩):=hw3▸(hG.GI i hi ⟨0,0,0⟩)
 have hV3:aj w3 w.heap.size 219 #[.pointer (some ⟨gb,go,none⟩)]:=by
  rw[hw3];exact((hV.far (p:=⟨gb,go+1+i*3,none⟩) (Ne.symm hne) _).far (p:=⟨gb,go+1+i*3+1,none⟩) (Ne.symm hne) _).far (p:=⟨gb,go+1+i*3+2,none⟩) (Ne.symm hne) _
 have rO:Mod [gb] w w3:=by
  rw[hw3];exact((((((Mod.of_below HB.out [gb]).then (Mod.of_below hb [gb])).then (Mod.of_below hb2 [gb])).ak (.inl (by simp)) _ _).ak (.inl (by simp)) _ _).ak (.inl (by simp)) _ _)
 have HW3:=qd (And.intro hG3 rO);clear hw3 hG3 rO v0 s0 s1 s2 g0 g1 g2 hb hb2 hV hG;have v0:=hV3.cell 0;simp only[List.getElem?_toArray,List.getElem?_cons_zero]at v0;go_wp2_with fail;refine(HM.out _ HW3.out.1).mono ?_;rintro e w4 ⟨rfl,hG4,jP⟩;have HG4:=qd hG4;have Dk:=qd (HW3.out.2.then jP);clear hG4 jP;go_wp2;refine bodyPost_ret (v:= .tuple #[.bool false,.nilIface]) (by simp[results,Tryz.results235,go_sem]) rfl ⟨rfl,HG4.out,Dk.out⟩
theorem E9 (gb:Nat)(t:TypeId)(pre post:List Value)(go:Nat)(l:List Nat)(es:List av)(i:Nat)(hi:i<8)(w:World)(h:bZ w gb t pre post go l es)(hm:l.getD i 0<128)(ho:l.any (·==128)=false):
  Calls Tryz.prog 235 #[bq ⟨gb,go,none⟩,nI i] w fun x w'=>x= .returned (.tuple #[.bool true,.nilIface])∧bZ w' gb t pre post go (l.set i 254) (es.set i ⟨0,0,0⟩)∧Mod [gb] w w':=by
 have hB:=(Below.refl w.heap.size w).alloc (Nat.le_refl _) (.cells #[.pointer (some ⟨gb,go,none⟩)] 219);have hV:=aj.new w 219 #[.pointer (some ⟨gb,go,none⟩)];obtain⟨W,hW⟩:∃W,W=w.alloc (.cells #[.pointer (some ⟨gb,go,none⟩)] 219):=⟨_,rfl⟩;rw[←hW]at hB hV;have hG:=h.below hB;have hlt:=h.lt;have HF:=qd (nK gb t pre post go l es i hi true W hG (decide_eq_true hm))
 have Al:(i:Int)<8:=by omega
 have hi0:(0:Int)≤(i:Int):=by omega
 have hne:gb≠w.heap.size:=by omega
 have HW:=qd hW;have HB:=qd hB;unfold bq at HF⊢;clear hW h hB hm;have HM:=qd (fun(u:World) (hu:bZ u gb t pre post go l (es.set i ⟨0,0,0⟩))=>Ba gb t pre post go l (es.set i ⟨0,0,0⟩) i 254 hi (by omega) (by omega) u hu);unfold bq at HM;go_in;go_upto_region 1 with fail;rw[←HW.out];have v0:=hV.cell 0;simp only[List.getElem?_toArray,List.getElem?_cons_zero]at v0;go_wp2_with fail;refine(HF.out).mono ?_;rintro e w1 ⟨rfl,hb⟩;replace hG:=hG.below hb;replace hV:=hV.below hb hV.lt;replace v0:=aD hb v0;have HO:=qd (A8 gb t pre post go l es w1 hG);rw[ho]at HO;unfold bq at HO;go_wp2_with fail;refine(HO.out).mono ?_;rintro e w2 ⟨rfl,hb2⟩;replace hG:=hG.below hb2;replace hV:=hV.below hb2 hV.lt;replace v0:=aD hb2 v0;have s0:=hG.at_ i 0 hi (by omega);have s1:=hG.at_ i 1 hi (by omega);have s2:=hG.at_ i 2 hi (by omega);rw[Nat.add_zero]at s0;simp only[aT,List.getElem?_cons_zero,List.getElem?_cons_succ]at s0 s1 s2;have g0:=hG.tF (go+1+i*3);have g1:=hG.tF (go+1+i*3+1);have g2:=hG.tF (go+1+i*3+2);go_upto_region 6 with fail;obtain⟨w3,hw3⟩:∃w3,w3=((w2.setCell ⟨gb,go+1+i*3,none⟩ (.int .u64 0)).setCell ⟨gb,go+1+i*3+1,none⟩ (.int .u64 0)).setCell ⟨gb,go+1+i*3+2,none⟩ (.int .u64 0):=⟨_,rfl⟩;rw[←hw3];have hG3:bZ w3 gb t pre post go l (es.set i ⟨0,0,0⟩):=hw3▸(hG.GI i hi ⟨0,0,0⟩)
 have hV3:aj w3 w.heap.size 219 #[.pointer (some ⟨gb,go,none⟩)]:=by
  rw[hw3];exact((hV.far (p:=⟨gb,go+1+i*3,none⟩) (Ne.symm hne) _).far (p:=⟨gb,go+1+i*3+1,none⟩) (Ne.symm hne) _).far (p:=⟨gb,go+1+i*3+2,none⟩) (Ne.symm hne) _
 have rO:Mod [gb] w w3:=by
  rw[hw3];exact((((((Mod.of_below HB.out [gb]).then (Mod.of_below hb [gb])).then (Mod.of_below hb2 [gb])).ak (.inl (by simp)) _ _).ak (.inl (by simp)) _ _).ak (.inl (by simp)) _ _)
 have HW3:=qd (And.intro hG3 rO);clear hw3 hG3 rO v0 s0 s1 s2 g0 g1 g2 hb hb2 hV hG;have v0:=hV3.cell 0;simp only[List.getElem?_toArray,List.getElem?_cons_zero]at v0;go_wp2_with fail;refine(HM.out _ HW3.out.1).mono ?_;rintro e w4 ⟨rfl,hG4,jP⟩;have HG4:=qd hG4;have Dk:=qd (HW3.out.2.then jP);clear hG4 jP;go_wp2;refine bodyPost_ret (v:= .tuple #[.bool true,.nilIface]) (by simp[results,Tryz.results235,go_sem]) rfl ⟨rfl,HG4.out,Dk.out⟩
end Go.Proofs.YtgkeameopnpinaaGreatDoor
