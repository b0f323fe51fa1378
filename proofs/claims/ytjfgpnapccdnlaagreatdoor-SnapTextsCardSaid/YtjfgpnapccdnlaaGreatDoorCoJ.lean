/- A group of slots in memory; its view's small functions by their contracts. -/
import Derived.Test.YtjfgpnapccdnlaaGreatDoorErrs
import Derived.Test.YtjfgpnapccdnlaaGreatDoorBuilder
import Derived.Test.YtjfgpnapccdnlaaGreatDoorKit2
import Derived.Test.YtjfgpnapccdnlaaGreatDoorSqT
import Derived.Deep.MidRow
namespace Go.Proofs.YtjfgpnapccdnlaaGreatDoor
set_option maxRecDepth 100000
set_option maxHeartbeats 1000000
open Go.RowKit dF
section
def eZ (l:List Nat)(es:List ay):List Value:= .int .u64 ((w8 l:Nat):Int)::es.flatMap aO
structure bV (w:World)(gb:Nat)(t:TypeId)(pre post:List Value)(go:Nat)(l:List Nat)(es:List ay):Prop where
 len:pre.length=go
 l8:l.length=8
 bytes:Bytes l
 e8:es.length=8
 blk:aj w gb t (pre++(eZ l es++post)).toArray
theorem fU (es:List ay):(es.flatMap aO).length=3*es.length:=by
 induction es with
 |nil=>rfl
 |cons e es ih=>simp[aO,ih];omega
theorem Gq (es:List ay)(i j:Nat)(hi:i<es.length)(hj:j<3):(es.flatMap aO)[3*i+j]?=(aO es[i])[j]?:=by
 induction es generalizing i with
 |nil=>simp at hi
 |cons e es ih=>
  rw[List.flatMap_cons]
  cases i with
  |zero=>rw[List.getElem?_append_left (by simp[aO];omega)];simp
  |succ i=>
   rw[List.getElem?_append_right (by simp[aO];omega)];have:=ih i (by simpa using hi);rw[show 3*(i+1)+j-(aO e).length=3*i+j by simp[aO];omega,this];rfl
theorem Oe (es:List ay)(i:Nat)(hi:i<es.length)(e:ay):(((es.flatMap aO).set (3*i) (.int .u64 (e.key:Int))).set (3*i+1) (.int .u64 (e.val:Int))).set (3*i+2) (.int .u64 (e.hash:Int))=(es.set i e).flatMap aO:=by
 induction es generalizing i with
 |nil=>simp at hi
 |cons x es ih=>
  cases i with
  |zero=>simp[aO]
  |succ i=>
   have h:=ih i (by simpa using hi);have hl:(aO x).length=3:=rfl;rw[List.set_cons_succ,List.flatMap_cons,List.flatMap_cons,←h,List.set_append_right _ _ (by omega),List.set_append_right _ _ (by omega),List.set_append_right _ _ (by omega)];rw[show 3*(i+1)-(aO x).length=3*i by omega,show 3*(i+1)+1-(aO x).length=3*i+1 by omega,show 3*(i+1)+2-(aO x).length=3*i+2 by omega]
section
variable {w w' : World} {gb go : Nat} {t : TypeId} {pre post : List Value} {l : List Nat} {es : List ay}
theorem bV.lt (h:bV w gb t pre post go l es):gb<w.heap.size:=h.blk.lt
theorem bV.uV (h:bV w gb t pre post go l es)(i:Nat):w.frozen? ⟨gb,i,none⟩=false:=h.blk.frozen i
theorem bV.mod {S:List Nat}(h:bV w gb t pre post go l es)(hm:Mod S w w')(hg:gb∉S):bV w' gb t pre post go l es:=⟨h.len,h.l8,h.bytes,h.e8,h.blk.mod hm hg⟩
instance {w w':World}{gb:Nat}{t:TypeId}{pre post:List Value}{go:Nat}{l:List Nat}{es:List ay}:Md (bV w gb t pre post go l es) w w' (bV w' gb t pre post go l es) (fun S=>gb∉S):=⟨fun h hm hs=>h.mod hm hs⟩
theorem bV.below (h:bV w gb t pre post go l es)(hb:Below w.heap.size w w'):bV w' gb t pre post go l es:=⟨h.len,h.l8,h.bytes,h.e8,h.blk.below hb h.lt⟩
theorem bV.alloc (h:bV w gb t pre post go l es)(o:Obj):bV (w.alloc o) gb t pre post go l es:=h.below ((Below.refl _ _).alloc (Nat.le_refl _) o)
theorem bV.word (h:bV w gb t pre post go l es):w.cell? ⟨gb,go,none⟩=some (.int .u64 ((w8 l:Nat):Int)):=by
 rw[h.blk.cell,List.getElem?_toArray,List.getElem?_append_right (by have:=h.len;omega)];simp[eZ,h.len]
theorem bV.at_ (h:bV w gb t pre post go l es)(i j:Nat)(hi:i<8)(hj:j<3):w.cell? ⟨gb,go+1+i*3+j,none⟩=(aO (es.getD i ⟨0,0,0⟩))[j]?:=by
 have h8:i<es.length:=by have:=h.e8;omega
 rw[h.blk.cell,List.getElem?_toArray,List.getElem?_append_right (by have:=h.len;omega),List.getElem?_append_left (by have:=h.len;rw[eZ,List.length_cons,fU];omega)];rw[show go+1+i*3+j-pre.length=(3*i+j)+1 by have:=h.len;omega,eZ,List.getElem?_cons_succ,Gq es i j h8 hj,dF.getD_in h8]
theorem bV.ab2 (h:bV w gb t pre post go l es)(i:Nat)(hi:i<8)(v:Nat):bV (w.setCell ⟨gb,go+1+i*3+1,none⟩ (.int .u64 (v:Int))) gb t pre post go l (es.set i {es.getD i ⟨0,0,0⟩with val:=v}):=by
 have h8:i<es.length:=by have:=h.e8;omega
 refine⟨h.len,h.l8,h.bytes,by rw[List.length_set];exact h.e8, ?_⟩;have:=h.blk.ak (go+(3*i+1+1)) (.int .u64 (v:Int));rw[←h.len,set_mid _ _ _ _ _ (by rw[eZ,List.length_cons,fU];omega)]at this;rw[eZ,List.set_cons_succ]at this;have e1:=Oe es i h8 {es.getD i ⟨0,0,0⟩with val:=v};have g0:=Gq es i 0 h8 (by omega);have g2:=Gq es i 2 h8 (by omega);rw[dF.getD_in h8]at e1⊢;simp only[aO,Nat.add_zero,List.getElem?_cons_zero,List.getElem?_cons_succ]at g0 g2
 have hk:(es.flatMap aO).set (3*i) (.int .u64 (es[i].key:Int))=es.flatMap aO:=by
  apply List.ext_getElem?;intro k;rw[List.getElem?_set];split
  ·next hk=>subst hk;rw[if_pos (by rw[fU];omega),g0]
  ·rfl
 have hh:((es.flatMap aO).set (3*i+1) (.int .u64 (v:Int))).set (3*i+2) (.int .u64 (es[i].hash:Int))=(es.flatMap aO).set (3*i+1) (.int .u64 (v:Int)):=by
  apply List.ext_getElem?;intro k;rw[List.getElem?_set];split
  ·next hk=>subst hk;rw[if_pos (by rw[List.length_set,fU];omega),List.getElem?_set_ne (by omega),g2]
  ·rfl
 dsimp only at e1;rw[hk,hh]at e1;rw[e1]at this;rw[←h.len];rw[show pre.length+1+i*3+1=pre.length+(3*i+1+1) by omega];exact this
theorem bV.Y6 (h:bV w gb t pre post go l es)(i b:Nat)(hb:b<256):bV (w.setCell ⟨gb,go,none⟩ (.int .u64 ((w8 (l.set i b):Nat):Int))) gb t pre post go (l.set i b) es:=by
 refine⟨h.len,by rw[List.length_set];exact h.l8,fun x hx=> ?_,h.e8, ?_⟩
 ·rcases List.mem_or_eq_of_mem_set hx with hx|rfl
  ·exact h.bytes x hx
  ·exact hb
 ·have:=h.blk.ak (go+0) (.int .u64 ((w8 (l.set i b):Nat):Int));rw[←h.len,set_mid _ _ _ _ _ (by simp[eZ])]at this;rw[←h.len];exact this
theorem bV.JO (h:bV w gb t pre post go l es)(i:Nat)(hi:i<8)(e:ay):bV (((w.setCell ⟨gb,go+1+i*3,none⟩ (.int .u64 (e.key:Int))).setCell ⟨gb,go+1+i*3+1,none⟩ (.int .u64 (e.val:Int))).setCell ⟨gb,go+1+i*3+2,none⟩ (.int .u64 (e.hash:Int))) gb t pre post go l (es.set i e):=by
 have h8:i<es.length:=by have:=h.e8;omega
 refine⟨h.len,h.l8,h.bytes,by rw[List.length_set];exact h.e8, ?_⟩;have:=((h.blk.ak (go+(3*i+1)) (.int .u64 (e.key:Int))).ak (go+(3*i+1+1)) (.int .u64 (e.val:Int))).ak (go+(3*i+2+1)) (.int .u64 (e.hash:Int));rw[←h.len,set_mid _ _ _ _ _ (by rw[eZ,List.length_cons,fU];omega),set_mid _ _ _ _ _ (by rw[List.length_set,eZ,List.length_cons,fU];omega),set_mid _ _ _ _ _ (by rw[List.length_set,List.length_set,eZ,List.length_cons,fU];omega)]at this;rw[eZ,List.set_cons_succ,List.set_cons_succ,List.set_cons_succ,Oe es i h8 e]at this;rw[←h.len];rw[show pre.length+1+i*3=pre.length+(3*i+1) by omega,show pre.length+(3*i+1)+1=pre.length+(3*i+1+1) by omega,show pre.length+(3*i+1)+2=pre.length+(3*i+2+1) by omega];exact this
end
theorem oK (gb:Nat)(t:TypeId)(pre post:List Value)(go:Nat)(l:List Nat)(es:List ay)(i:Nat)(hi:i<8)(must:Bool)(w:World)(h:bV w gb t pre post go l es)(hm:decide (l.getD i 0<128)=must):
  Calls Tryz.prog 210 #[bg ⟨gb,go,none⟩,.int .i64 (i:Int),.bool must] w fun e w'=>e= .returned .nilIface∧Below w.heap.size w w':=by
 have HG:=qd (Gl l h.bytes i hi);have hw:=(h.alloc (.cells #[.pointer (some ⟨gb,go,none⟩)] 198)).word
 have h1:¬(i:Int)<0:=by omega
 have h2:¬(i:Int)≥8:=by omega
 unfold bg;clear h;generalize l.getD i 0=b at*
 have hc:decide ((b:Int)<128)=must:=by rw[←hm];exact decide_eq_decide.2 (by omega)
 clear hm;cases must
 case' true=>
  have hc':(b:Int)<128:=by simpa using hc
 case' false=>
  have hc':¬(b:Int)<128:=by simpa using hc
 all_goals
  clear hc;go_in;go_wp2_with (first|(refine(HG.out _).mono ?_;rintro e w1 ⟨rfl,rfl⟩));go_ret;exact⟨rfl,(Below.refl _ _).alloc (Nat.le_refl _) _⟩
theorem Og (gb:Nat)(t:TypeId)(pre post:List Value)(go:Nat)(l:List Nat)(es:List ay)(i:Nat)(hi:i<8)(w:World)(h:bV w gb t pre post go l es)(hm:¬l.getD i 0<128)(E:Nat→Addr)(hE:dL E w 5):
  Calls Tryz.prog 210 #[bg ⟨gb,go,none⟩,.int .i64 (i:Int),.bool true] w fun e w'=>e= .returned (.iface 391 (.pointer (some (E 5))))∧Below w.heap.size w w':=by
 have HG:=qd (Gl l h.bytes i hi);have hw:=(h.alloc (.cells #[.pointer (some ⟨gb,go,none⟩)] 198)).word;have hE':(w.alloc (.cells #[.pointer (some ⟨gb,go,none⟩)] 198)).cell? ⟨6,0,none⟩=some (.iface 391 (.pointer (some (E 5)))):=hE.alloc _
 have h1:¬(i:Int)<0:=by omega
 have h2:¬(i:Int)≥8:=by omega
 unfold bg;clear h hE;generalize l.getD i 0=b at*
 have hc':¬(b:Int)<128:=by omega
 have hd':decide ((b:Int)<128)=false:=decide_eq_false hc';clear hm;go_in;go_wp2_with (first|(refine(HG.out _).mono ?_;rintro e w1 ⟨rfl,rfl⟩));go_ret;exact⟨rfl,(Below.refl _ _).alloc (Nat.le_refl _) _⟩
theorem Oh (gb:Nat)(t:TypeId)(pre post:List Value)(go:Nat)(l:List Nat)(es:List ay)(i:Nat)(hi:i<8)(w:World)(h:bV w gb t pre post go l es)(hm:l.getD i 0<128):
  Calls Tryz.prog 142 #[bg ⟨gb,go,none⟩,.int .i64 (i:Int)] w fun e w'=>e= .returned (.tuple #[aW (es.getD i ⟨0,0,0⟩),.bool true])∧Below w.heap.size w w':=by
 have hB:=((Below.refl w.heap.size w).alloc (Nat.le_refl _) (.cells #[.pointer (some ⟨gb,go,none⟩)] 198)).alloc (by simp) (.cells #[.int .u64 0,.int .u64 0,.int .u64 0] 148);have hV:=(aj.new w 198 #[.pointer (some ⟨gb,go,none⟩)]).alloc (.cells #[.int .u64 0,.int .u64 0,.int .u64 0] 148);have hD:=aj.new (w.alloc (.cells #[.pointer (some ⟨gb,go,none⟩)] 198)) 148 #[.int .u64 0,.int .u64 0,.int .u64 0];rw[World.size_alloc]at hD;obtain⟨W,hW⟩:∃W,W=(w.alloc (.cells #[.pointer (some ⟨gb,go,none⟩)] 198)).alloc (.cells #[.int .u64 0,.int .u64 0,.int .u64 0] 148):=⟨_,rfl⟩;rw[←hW]at hB hD hV;have hG:=h.below hB;have HF:=qd (oK gb t pre post go l es i hi true W hG (decide_eq_true hm));have HW:=qd hW;have Iy:i<8:=hi;have e0:=hG.at_ i 0 hi (by omega);rw[Nat.add_zero]at e0;have e1:=hG.at_ i 1 hi (by omega);have e2:=hG.at_ i 2 hi (by omega);unfold bg at HF⊢;unfold aW;clear hW hG h hi;generalize es.getD i ⟨0,0,0⟩=x at*;simp only[aO,List.getElem?_cons_zero,List.getElem?_cons_succ]at e0 e1 e2;go_in;go_wp2_with fail;rw[←HW.out];have v0:=hV.cell 0;simp only[List.getElem?_toArray,List.getElem?_cons_zero]at v0;go_wp2_with fail;refine(HF.out).mono ?_;rintro e w1 ⟨rfl,hb⟩;replace v0:=aA hb v0;replace e0:=aA hb e0;replace e1:=aA hb e1;replace e2:=aA hb e2;have hD1:=hD.below hb hD.lt;obtain⟨f0,f1,f2⟩:=hD1.f3;obtain⟨d0,d1,d2⟩:=hD1.c3;have hB1:=qd (bP hb hB);clear hb hB hD hV;go_wp2
 refine bodyPost_ret (v:= .tuple #[.agg #[.int .u64 (x.key:Int),.int .u64 (x.val:Int),.int .u64 (x.hash:Int)],.bool true]) ?_ rfl ⟨rfl, ?_⟩
 ·simp[results,Tryz.results142,go_sem,d0,d1,d2]
 ·repeat (with_reducible first|exact hB1.out|refine Below.setCell ?_ ?_ _)
  all_goals (simp;try omega)
end
theorem TU (gb:Nat)(t:TypeId)(pre post:List Value)(go:Nat)(l:List Nat)(es:List ay)(i:Nat)(hi:i<8)(w:World)(h:bV w gb t pre post go l es)(hm:¬l.getD i 0<128)(E:Nat→Addr)(hE:dL E w 5):
  Calls Tryz.prog 142 #[bg ⟨gb,go,none⟩,.int .i64 (i:Int)] w fun e w'=>e= .returned (.tuple #[aW ⟨0,0,0⟩,.bool false])∧Below w.heap.size w w':=by
 obtain⟨W,hW,hB,hV,hD⟩:=qP w 198 #[.pointer (some ⟨gb,go,none⟩)] 148 #[.int .u64 0,.int .u64 0,.int .u64 0];have HF:=qd (Og gb t pre post go l es i hi W (h.below hB) hm E (hE.below hB (Nat.le_refl _)));have HW:=qd hW;unfold bg at HF⊢;unfold aW;clear hW h hi hE hm;go_in;go_wp2_with fail;rw[←HW.out];have v0:=hV.cell 0;simp only[List.getElem?_toArray,List.getElem?_cons_zero]at v0;go_wp2_with fail;refine(HF.out).mono ?_;rintro e w1 ⟨rfl,hb⟩;have hD1:=hD.below hb hD.lt;obtain⟨d0,d1,d2⟩:=hD1.c3;obtain⟨f0,f1,f2⟩:=hD1.f3;have hB1:=qd (bP hb hB);clear hb hB hD hV;go_wp2;refine bodyPost_ret (v:= .tuple #[.agg #[.int .u64 0,.int .u64 0,.int .u64 0],.bool false]) ?_ rfl ⟨rfl, ?_⟩
 ·simp[results,Tryz.results142,go_sem,d0,d1,d2]
 ·repeat (with_reducible first|exact hB1.out|refine Below.setCell ?_ ?_ _)
  all_goals (simp;try omega)
theorem Wh (gb:Nat)(t:TypeId)(pre post:List Value)(go:Nat)(l:List Nat)(es:List ay)(w:World)(h:bV w gb t pre post go l es)(hT:gF w):
  Calls Tryz.prog 139 #[bg ⟨gb,go,none⟩] w fun e w'=>e= .returned (.int .i64 (uj (firstM (l.map eB))))∧Below w.heap.size w w':=by
 have hg:=(World.block_lt_of_cell? w _ (hT 0 (by omega)));have hB:=(Below.refl w.heap.size w).alloc (Nat.le_refl _) (.cells #[.pointer (some ⟨gb,go,none⟩)] 198);have hV:=aj.new w 198 #[.pointer (some ⟨gb,go,none⟩)];obtain⟨W,hW⟩:∃W,W=w.alloc (.cells #[.pointer (some ⟨gb,go,none⟩)] 198):=⟨_,rfl⟩;rw[←hW]at hB hV;have hG:=h.below hB;have hT1:gF W:=fun i hi=>(hB.cell (p:=⟨21,pJ i,none⟩) hg).trans (hT i hi);have H1:=qd (TF l h.l8 h.bytes);have H2:=qd (TB (l.map eB) (by simpa using h.l8) (qY l).bytes W hT1);rw[uS (qY l)]at H2;have HW:=qd hW;have hw:=hG.word;have v0:=hV.cell 0;simp only[List.getElem?_toArray,List.getElem?_cons_zero]at v0;have HB:=qd hB;unfold bg;clear hW h hT hT1 hG hB hV;go_in;go_upto_region 1 with fail;rw[←HW.out];go_wp2_with fail;refine(H1.out _).mono ?_;rintro e w1 ⟨rfl,rfl⟩;go_wp2_with fail;refine H2.out.mono ?_;rintro e w1 ⟨rfl,rfl⟩;go_wp2;go_ret;exact⟨rfl,HB.out⟩
theorem Wi {l:List Nat}:(((w8 (l.map (kX 128)):Nat):Int) !=0)=l.any (·==128):=by
 cases hb:l.any (·==128)with
 |true=>
  rw[bne_iff_ne];intro h0;obtain⟨x,hx,he⟩:=List.any_eq_true.1 hb;have:=(Ac _).1 (by omega:w8 (l.map (kX 128))=0) (kX 128 x) (List.mem_map_of_mem hx);rw[beq_iff_eq]at he;subst he;simp[kX]at this
 |false=>
  rw[bne_eq_false_iff_eq]
  have:w8 (l.map (kX 128))=0:=(Ac _).2 fun b hx=>by
   obtain⟨y,hy,rfl⟩:=List.mem_map.1 hx;have:=List.any_eq_false.1 hb y hy;unfold kX;rw[if_neg (by simpa using this)]
  omega
theorem Df (gb:Nat)(t:TypeId)(pre post:List Value)(go:Nat)(l:List Nat)(es:List ay)(w:World)(h:bV w gb t pre post go l es):
  Calls Tryz.prog 141 #[bg ⟨gb,go,none⟩] w fun e w'=>e= .returned (.bool (l.any (·==128)))∧Below w.heap.size w w':=by
 have hB:=(Below.refl w.heap.size w).alloc (Nat.le_refl _) (.cells #[.pointer (some ⟨gb,go,none⟩)] 198);have hV:=aj.new w 198 #[.pointer (some ⟨gb,go,none⟩)];obtain⟨W,hW⟩:∃W,W=w.alloc (.cells #[.pointer (some ⟨gb,go,none⟩)] 198):=⟨_,rfl⟩;rw[←hW]at hB hV;have hG:=h.below hB;have H1:=qd (NU l h.l8 h.bytes);have HO:=qd (Wi (l:=l));have HW:=qd hW;have hw:=hG.word;have v0:=hV.cell 0;simp only[List.getElem?_toArray,List.getElem?_cons_zero]at v0;have HB:=qd hB;unfold bg;clear hW h hG hB hV;generalize w8 (l.map (kX 128))=m at*;generalize l.any (·==128)=o at*;go_in;go_upto_region 1 with fail;rw[←HW.out];go_wp2_with fail;refine(H1.out _).mono ?_;rintro e w1 ⟨rfl,rfl⟩;have ho:=HO.out;go_wp2;go_ret;exact⟨rfl,HB.out⟩
theorem Dg (gb:Nat)(t:TypeId)(pre post:List Value)(go:Nat)(l:List Nat)(es:List ay)(i b:Nat)(hi:i<8)(ig:b<256)(hb:b≤128∨b=254)(w:World)(h:bV w gb t pre post go l es):
  Calls Tryz.prog 212 #[bg ⟨gb,go,none⟩,.int .i64 (i:Int),.int .u8 (b:Int)] w fun e w'=>e= .returned undef∧bV w' gb t pre post go (l.set i b) es∧Mod [gb] w w':=by
 have hB:=(Below.refl w.heap.size w).alloc (Nat.le_refl _) (.cells #[.pointer (some ⟨gb,go,none⟩)] 198);have hV:=aj.new w 198 #[.pointer (some ⟨gb,go,none⟩)];obtain⟨W,hW⟩:∃W,W=w.alloc (.cells #[.pointer (some ⟨gb,go,none⟩)] 198):=⟨_,rfl⟩;rw[←hW]at hB hV;have hG:=h.below hB;have hlt:=h.lt;have H1:=qd (YR l h.l8 h.bytes i b hi ig hb);have HW:=qd hW;have hw:=hG.word;have v0:=hV.cell 0;simp only[List.getElem?_toArray,List.getElem?_cons_zero]at v0;have HB:=qd hB;unfold bg;clear hW h hB hV hi hb;go_in;go_upto_region 1 with fail;rw[←HW.out];go_wp2_with fail;refine(H1.out _).mono ?_;rintro e w1 ⟨rfl,n,rfl⟩;have hf:=hG.uV go;have HS:=qd (show bV (W.drewN n) gb t pre post go l es from⟨hG.len,hG.l8,hG.bytes,hG.e8,hG.blk.drewN n⟩);clear hG;go_wp2;go_end0;exact⟨rfl,HS.out.Y6 i b ig,((Mod.of_below HB.out [gb]).then (Mod.drewN [gb] W n)).ak (.inl (by simp)) _ _⟩
theorem bV.drew {w:World}{gb go:Nat}{t:TypeId}{pre post:List Value}{l:List Nat}{es:List ay}(h:bV w gb t pre post go l es):bV w.drew gb t pre post go l es:=⟨h.len,h.l8,h.bytes,h.e8,h.blk.drew⟩
theorem Y7 (gb:Nat)(t:TypeId)(pre post:List Value)(go:Nat)(l:List Nat)(es:List ay)(i:Nat)(hi:i<8)(e:ay)(h64:e.hash<18446744073709551616)(w:World)(h:bV w gb t pre post go l es)(hm:¬l.getD i 0<128):
  Calls Tryz.prog 145 #[bg ⟨gb,go,none⟩,.int .i64 (i:Int),aW e] w fun x w'=>x= .returned (.tuple #[.bool (l.getD i 0==254),.nilIface])∧bV w' gb t pre post go (l.set i (e.hash % 128)) (es.set i e)∧Mod [gb] w w':=by
 obtain⟨W,hW,hB,hV,hE⟩:=qP w 198 #[.pointer (some ⟨gb,go,none⟩)] 148 #[.int .u64 (e.key:Int),.int .u64 (e.val:Int),.int .u64 (e.hash:Int)];have hG:=h.below hB;have hlt:=h.lt;have HF:=qd (oK gb t pre post go l es i hi false W hG (decide_eq_false hm));have HGt:=qd (Gl l h.bytes i hi);have H2:=qd (NY e.hash h64);have HM:=qd (fun(u:World) (hu:bV u gb t pre post go l (es.set i e))=>Dg gb t pre post go l (es.set i e) i (e.hash % 128) hi (by omega) (.inl (by omega)) u hu)
 have Iy:(i:Int)<8:=by omega
 have hi0:(0:Int)≤(i:Int):=by omega
 have HO:∀b:Nat,(((b:Nat):Int)==254)=(b==254):=fun b=>by rw[Bool.eq_iff_iff,beq_iff_eq,beq_iff_eq];omega
 have Cq:=qd (HO (l.getD i 0));have HW:=qd hW;have HB:=qd hB
 have hne:gb≠w.heap.size:=by omega
 have hne1:gb≠w.heap.size+1:=by omega
 unfold bg at HF HM⊢;unfold aW;clear hW h hB hm HO;generalize(l.getD i 0==254)=o at*;generalize l.getD i 0=b at*;go_in;go_upto_region 1 with fail;rw[←HW.out];have v0:=hV.cell 0;simp only[List.getElem?_toArray,List.getElem?_cons_zero]at v0;go_wp2_with fail;refine(HF.out).mono ?_;rintro e w1 ⟨rfl,hb⟩;replace hG:=hG.below hb;have hE1:=hE.below hb hE.lt;replace v0:=aA hb v0;have hw:=hG.word;obtain⟨e0,e1,e2⟩:=hE1.c3;go_wp2_with fail;refine(HGt.out _).mono ?_;rintro e w2 ⟨rfl,rfl⟩;have ho:=Cq.out;go_upto_region 5 with fail;have s0:=hG.at_ i 0 hi (by omega);have s1:=hG.at_ i 1 hi (by omega);have s2:=hG.at_ i 2 hi (by omega);rw[Nat.add_zero]at s0;simp only[aO,List.getElem?_cons_zero,List.getElem?_cons_succ]at s0 s1 s2;have g0:=hG.uV (go+1+i*3);have g1:=hG.uV (go+1+i*3+1);have g2:=hG.uV (go+1+i*3+2);refine rT (fun w'=>w'=World.drew w1) [7] ?_;have hHeld:(fun w'=>w'=World.drew w1) (World.drew w1):=rfl;refine vW 0 rfl ?_;refine vT 1 rfl ?_;refine vW 2 rfl ?_;refine vT 3 rfl ?_;refine vW 4 rfl ?_;refine vW 5 rfl ?_;refine vW 6 rfl ?_;refine nT 7 rfl fun K hK=> ?_;go_simp;refine kO hK ?_;clear hK K;refine aX (by kernel_rfl) ?_ _;obtain⟨w2,hw2⟩:∃w2,w2=(((w1.setCell ⟨gb,go+1+i*3,none⟩ (.int .u64 (e.key:Int))).setCell ⟨gb,go+1+i*3+1,none⟩ (.int .u64 (e.val:Int))).setCell ⟨gb,go+1+i*3+2,none⟩ (.int .u64 (e.hash:Int))).drew:=⟨_,rfl⟩;rw[←hw2];have hG2:bV w2 gb t pre post go l (es.set i e):=hw2▸(hG.JO i hi e).drew
 have hV2:aj w2 w.heap.size 198 #[.pointer (some ⟨gb,go,none⟩)]:=by
  rw[hw2];exact(((aj.far (hV.below hb hV.lt) (p:=⟨gb,go+1+i*3,none⟩) (Ne.symm hne) _).far (p:=⟨gb,go+1+i*3+1,none⟩) (Ne.symm hne) _).far (p:=⟨gb,go+1+i*3+2,none⟩) (Ne.symm hne) _).drew
 have hE2:aj w2 (w.heap.size+1) 148 #[.int .u64 (e.key:Int),.int .u64 (e.val:Int),.int .u64 (e.hash:Int)]:=by
  rw[hw2];exact(((hE1.far (p:=⟨gb,go+1+i*3,none⟩) (Ne.symm hne1) _).far (p:=⟨gb,go+1+i*3+1,none⟩) (Ne.symm hne1) _).far (p:=⟨gb,go+1+i*3+2,none⟩) (Ne.symm hne1) _).drew
 have hM2:Mod [gb] w w2:=by
  rw[hw2];exact((((((Mod.of_below HB.out [gb]).then (Mod.of_below hb [gb])).ak (.inl (by simp)) _ _).ak (.inl (by simp)) _ _).ak (.inl (by simp)) _ _)).then (Mod.drewN [gb] _ 1)
 have HW2:=qd (And.intro hG2 hM2);clear hw2 hG2 hM2 v0 hw e0 e1 e2 s0 s1 s2 g0 g1 g2 hE1 hb hE hV hG;go_upto_region 6 with fail;have v0:=hV2.cell 0;have e2:=hE2.cell 2;simp only[gl]at v0 e2;refine rT (fun w'=>w'=World.drew w2) [5] ?_;have hHeld:(fun w'=>w'=World.drew w2) (World.drew w2):=rfl;refine vT 0 rfl ?_;refine vW 1 rfl ?_;refine vW 2 rfl ?_;refine vT 3 rfl ?_;refine nT 4 rfl fun K hK=> ?_;go_simp;refine(H2.out _).mono ?_;rintro e w1 ⟨rfl,rfl⟩;go_wp2_with fail;have hHeld:=show(fun w'=>w'=World.drew w2) _ from rfl;refine kO hK ?_;clear hK K;refine nT 5 rfl fun K hK=> ?_;go_simp;refine(HM.out _ HW2.out.1.drew).mono ?_;rintro e w3 ⟨rfl,hG3,kL⟩;have HG3:=qd hG3;have Oi:=qd kL;clear hG3 kL;go_wp2_with fail;refine kO hK ?_;clear hK K;refine aX (by kernel_rfl) ?_ _;go_wp2;refine bodyPost_ret (v:= .tuple #[.bool o,.nilIface]) (by simp[results,Tryz.results145,go_sem]) rfl ⟨rfl,HG3.out,(HW2.out.2.then (Mod.drewN [gb] _ 1)).then Oi.out⟩
theorem Y8 (gb:Nat)(t:TypeId)(pre post:List Value)(go:Nat)(l:List Nat)(es:List ay)(i:Nat)(hi:i<8)(v:Nat)(w:World)(h:bV w gb t pre post go l es)(hm:l.getD i 0<128):
  Calls Tryz.prog 143 #[bg ⟨gb,go,none⟩,.int .i64 (i:Int),.int .u64 (v:Int)] w fun x w'=>x= .returned .nilIface∧bV w' gb t pre post go l (es.set i {es.getD i ⟨0,0,0⟩with val:=v})∧Mod [gb] w w':=by
 have hB:=(Below.refl w.heap.size w).alloc (Nat.le_refl _) (.cells #[.pointer (some ⟨gb,go,none⟩)] 198);have hV:=aj.new w 198 #[.pointer (some ⟨gb,go,none⟩)];obtain⟨W,hW⟩:∃W,W=w.alloc (.cells #[.pointer (some ⟨gb,go,none⟩)] 198):=⟨_,rfl⟩;rw[←hW]at hB hV;have hG:=h.below hB;have HF:=qd (oK gb t pre post go l es i hi true W hG (decide_eq_true hm))
 have Iy:(i:Int)<8:=by omega
 have hi0:(0:Int)≤(i:Int):=by omega
 have HW:=qd hW;have HB:=qd hB;unfold bg at HF⊢;clear hW h hB hm;go_in;go_upto_region 1 with fail;rw[←HW.out];have v0:=hV.cell 0;simp only[List.getElem?_toArray,List.getElem?_cons_zero]at v0;go_wp2_with fail;refine(HF.out).mono ?_;rintro e w1 ⟨rfl,hb⟩;replace hG:=hG.below hb;replace v0:=aA hb v0;have s1:=hG.at_ i 1 hi (by omega);simp only[aO,List.getElem?_cons_zero,List.getElem?_cons_succ]at s1;have g1:=hG.uV (go+1+i*3+1);have HG1:=qd (hG.ab2 i hi v);have HM1:=qd (((Mod.of_below HB.out [gb]).then (Mod.of_below hb [gb])).sl (go+1+i*3+1) (.int .u64 (v:Int)));clear hG hb hV;go_wp2;go_ret;exact⟨rfl,HG1.out,HM1.out⟩
theorem Iz (gb:Nat)(t:TypeId)(pre post:List Value)(go:Nat)(l:List Nat)(es:List ay)(i:Nat)(hi:i<8)(w:World)(h:bV w gb t pre post go l es)(hm:l.getD i 0<128)(ho:l.any (·==128)=true):
  Calls Tryz.prog 320 #[bg ⟨gb,go,none⟩,.int .i64 (i:Int)] w fun x w'=>x= .returned (.tuple #[.bool false,.nilIface])∧bV w' gb t pre post go (l.set i 128) (es.set i ⟨0,0,0⟩)∧Mod [gb] w w':=by
 have hB:=(Below.refl w.heap.size w).alloc (Nat.le_refl _) (.cells #[.pointer (some ⟨gb,go,none⟩)] 198);have hV:=aj.new w 198 #[.pointer (some ⟨gb,go,none⟩)];obtain⟨W,hW⟩:∃W,W=w.alloc (.cells #[.pointer (some ⟨gb,go,none⟩)] 198):=⟨_,rfl⟩;rw[←hW]at hB hV;have hG:=h.below hB;have hlt:=h.lt;have HF:=qd (oK gb t pre post go l es i hi true W hG (decide_eq_true hm))
 have Iy:(i:Int)<8:=by omega
 have hi0:(0:Int)≤(i:Int):=by omega
 have hne:gb≠w.heap.size:=by omega
 have HW:=qd hW;have HB:=qd hB;unfold bg at HF⊢;clear hW h hB hm;have HM:=qd (fun(u:World) (hu:bV u gb t pre post go l (es.set i ⟨0,0,0⟩))=>Dg gb t pre post go l (es.set i ⟨0,0,0⟩) i 128 hi (by omega) (by omega) u hu);unfold bg at HM;go_in;go_upto_region 1 with fail;rw[←HW.out];have v0:=hV.cell 0;simp only[List.getElem?_toArray,List.getElem?_cons_zero]at v0;go_wp2_with fail;refine(HF.out).mono ?_;rintro e w1 ⟨rfl,hb⟩;replace hG:=hG.below hb;replace hV:=hV.below hb hV.lt;replace v0:=aA hb v0;have HO:=qd (Df gb t pre post go l es w1 hG);rw[ho]at HO;unfold bg at HO;go_wp2_with fail;refine(HO.out).mono ?_;rintro e w2 ⟨rfl,hb2⟩;replace hG:=hG.below hb2;replace hV:=hV.below hb2 hV.lt;replace v0:=aA hb2 v0;have s0:=hG.at_ i 0 hi (by omega);have s1:=hG.at_ i 1 hi (by omega);have s2:=hG.at_ i 2 hi (by omega);rw[Nat.add_zero]at s0;simp only[aO,List.getElem?_cons_zero,List.getElem?_cons_succ]at s0 s1 s2;have g0:=hG.uV (go+1+i*3);have g1:=hG.uV (go+1+i*3+1);have g2:=hG.uV (go+1+i*3+2);go_upto_region 6 with fail;obtain⟨w3,hw3⟩:∃w3,w3=((w2.setCell ⟨gb,go+1+i*3,none⟩ (.int .u64 0)).setCell ⟨gb,go+1+i*3+1,none⟩ (.int .u64 0)).setCell ⟨gb,go+1+i*3+2,none⟩ (.int .u64 0):=⟨_,rfl⟩;rw[←hw3];have hG3:bV w3 gb t pre post go l (es.set i ⟨0,0,0⟩):=hw3▸(hG.JO i hi ⟨0,0,0⟩)
 have hV3:aj w3 w.heap.size 198 #[.pointer (some ⟨gb,go,none⟩)]:=by
  rw[hw3];exact((hV.far (p:=⟨gb,go+1+i*3,none⟩) (Ne.symm hne) _).far (p:=⟨gb,go+1+i*3+1,none⟩) (Ne.symm hne) _).far (p:=⟨gb,go+1+i*3+2,none⟩) (Ne.symm hne) _
 have tL:Mod [gb] w w3:=by
  rw[hw3];exact((((((Mod.of_below HB.out [gb]).then (Mod.of_below hb [gb])).then (Mod.of_below hb2 [gb])).ak (.inl (by simp)) _ _).ak (.inl (by simp)) _ _).ak (.inl (by simp)) _ _)
 have HW3:=qd (And.intro hG3 tL);clear hw3 hG3 tL v0 s0 s1 s2 g0 g1 g2 hb hb2 hV hG;have v0:=hV3.cell 0;simp only[List.getElem?_toArray,List.getElem?_cons_zero]at v0;go_wp2_with fail;refine(HM.out _ HW3.out.1).mono ?_;rintro e w4 ⟨rfl,hG4,kD⟩;have HG4:=qd hG4;have Fu:=qd (HW3.out.2.then kD);clear hG4 kD;go_wp2;refine bodyPost_ret (v:= .tuple #[.bool false,.nilIface]) (by simp[results,Tryz.results320,go_sem]) rfl ⟨rfl,HG4.out,Fu.out⟩
theorem IB (gb:Nat)(t:TypeId)(pre post:List Value)(go:Nat)(l:List Nat)(es:List ay)(i:Nat)(hi:i<8)(w:World)(h:bV w gb t pre post go l es)(hm:l.getD i 0<128)(ho:l.any (·==128)=false):
  Calls Tryz.prog 320 #[bg ⟨gb,go,none⟩,.int .i64 (i:Int)] w fun x w'=>x= .returned (.tuple #[.bool true,.nilIface])∧bV w' gb t pre post go (l.set i 254) (es.set i ⟨0,0,0⟩)∧Mod [gb] w w':=by
 have hB:=(Below.refl w.heap.size w).alloc (Nat.le_refl _) (.cells #[.pointer (some ⟨gb,go,none⟩)] 198);have hV:=aj.new w 198 #[.pointer (some ⟨gb,go,none⟩)];obtain⟨W,hW⟩:∃W,W=w.alloc (.cells #[.pointer (some ⟨gb,go,none⟩)] 198):=⟨_,rfl⟩;rw[←hW]at hB hV;have hG:=h.below hB;have hlt:=h.lt;have HF:=qd (oK gb t pre post go l es i hi true W hG (decide_eq_true hm))
 have Iy:(i:Int)<8:=by omega
 have hi0:(0:Int)≤(i:Int):=by omega
 have hne:gb≠w.heap.size:=by omega
 have HW:=qd hW;have HB:=qd hB;unfold bg at HF⊢;clear hW h hB hm;have HM:=qd (fun(u:World) (hu:bV u gb t pre post go l (es.set i ⟨0,0,0⟩))=>Dg gb t pre post go l (es.set i ⟨0,0,0⟩) i 254 hi (by omega) (by omega) u hu);unfold bg at HM;go_in;go_upto_region 1 with fail;rw[←HW.out];have v0:=hV.cell 0;simp only[List.getElem?_toArray,List.getElem?_cons_zero]at v0;go_wp2_with fail;refine(HF.out).mono ?_;rintro e w1 ⟨rfl,hb⟩;replace hG:=hG.below hb;replace hV:=hV.below hb hV.lt;replace v0:=aA hb v0;have HO:=qd (Df gb t pre post go l es w1 hG);rw[ho]at HO;unfold bg at HO;go_wp2_with fail;refine(HO.out).mono ?_;rintro e w2 ⟨rfl,hb2⟩;replace hG:=hG.below hb2;replace hV:=hV.below hb2 hV.lt;replace v0:=aA hb2 v0;have s0:=hG.at_ i 0 hi (by omega);have s1:=hG.at_ i 1 hi (by omega);have s2:=hG.at_ i 2 hi (by omega);rw[Nat.add_zero]at s0;simp only[aO,List.getElem?_cons_zero,List.getElem?_cons_succ]at s0 s1 s2;have g0:=hG.uV (go+1+i*3);have g1:=hG.uV (go+1+i*3+1);have g2:=hG.uV (go+1+i*3+2);go_upto_region 6 with fail;obtain⟨w3,hw3⟩:∃w3,w3=((w2.setCell ⟨gb,go+1+i*3,none⟩ (.int .u64 0)).setCell ⟨gb,go+1+i*3+1,none⟩ (.int .u64 0)).setCell ⟨gb,go+1+i*3+2,none⟩ (.int .u64 0):=⟨_,rfl⟩;rw[←hw3];have hG3:bV w3 gb t pre post go l (es.set i ⟨0,0,0⟩):=hw3▸(hG.JO i hi ⟨0,0,0⟩)
 have hV3:aj w3 w.heap.size 198 #[.pointer (some ⟨gb,go,none⟩)]:=by
  rw[hw3];exact((hV.far (p:=⟨gb,go+1+i*3,none⟩) (Ne.symm hne) _).far (p:=⟨gb,go+1+i*3+1,none⟩) (Ne.symm hne) _).far (p:=⟨gb,go+1+i*3+2,none⟩) (Ne.symm hne) _
 have tL:Mod [gb] w w3:=by
  rw[hw3];exact((((((Mod.of_below HB.out [gb]).then (Mod.of_below hb [gb])).then (Mod.of_below hb2 [gb])).ak (.inl (by simp)) _ _).ak (.inl (by simp)) _ _).ak (.inl (by simp)) _ _)
 have HW3:=qd (And.intro hG3 tL);clear hw3 hG3 tL v0 s0 s1 s2 g0 g1 g2 hb hb2 hV hG;have v0:=hV3.cell 0;simp only[List.getElem?_toArray,List.getElem?_cons_zero]at v0;go_wp2_with fail;refine(HM.out _ HW3.out.1).mono ?_;rintro e w4 ⟨rfl,hG4,kD⟩;have HG4:=qd hG4;have Fu:=qd (HW3.out.2.then kD);clear hG4 kD;go_wp2;refine bodyPost_ret (v:= .tuple #[.bool true,.nilIface]) (by simp[results,Tryz.results320,go_sem]) rfl ⟨rfl,HG4.out,Fu.out⟩
theorem Oj {g:Nat}{t:TypeId}{post:List Value}:∀(vs x pre:List Value) (w:World),x.length=vs.length→aj w g t (pre++(x++post)).toArray→aj (w.setCells g pre.length vs) g t (pre++(vs++post)).toArray
 | [],x,pre,w,hl,h=>by
  have:x=[]:=List.length_eq_zero_iff.1 hl;subst this;exact h
 |v::vs,x,pre,w,hl,h=>by
  cases x with
  |nil=>simp at hl
  |cons y x=>
   have h1:=h.ak (pre.length+0) v;rw[set_mid _ _ _ _ _ (by simp)]at h1;have h2:=Oj vs x (pre++[v]) _ (by simpa using hl) (by simpa using h1);simpa[World.setCells]using h2
theorem Ol {g:Nat}{S:List Nat}(hg:g∈S){w0:World}:∀(vs:List Value) (o:Nat) (w:World),Mod S w0 w→Mod S w0 (w.setCells g o vs)
 | [],_,_,h=>h
 |v::vs,o,_,h=>Ol hg vs (o+1) _ (h.ak (.inl hg) o v)
theorem bV.ex {w:World}{gb go:Nat}{t:TypeId}{pre post:List Value}{l:List Nat}{es:List ay}(h:bV w gb t pre post go l es)(j:Nat)(hj:j<25):∃v,w.cell? ⟨gb,go+j,none⟩=some v:=by
 have hl:j<(eZ l es).length:=by rw[eZ,List.length_cons,fU,h.e8];exact hj
 rw[h.blk.cell,List.getElem?_toArray,List.getElem?_append_right (by have:=h.len;omega),List.getElem?_append_left (by have:=h.len;omega)]
 have:go+j-pre.length=j:=by have:=h.len;omega
 rw[this];exact⟨_,List.getElem?_eq_getElem hl⟩
def jP:List Value:=[.int .u64 ((uh 128:Nat):Int),.int .u64 0,.int .u64 0,.int .u64 0,.int .u64 0,.int .u64 0,.int .u64 0,.int .u64 0,.int .u64 0,.int .u64 0,.int .u64 0,.int .u64 0,.int .u64 0,.int .u64 0,.int .u64 0,.int .u64 0,.int .u64 0,.int .u64 0,.int .u64 0,.int .u64 0,.int .u64 0,.int .u64 0,.int .u64 0,.int .u64 0,.int .u64 0]
theorem Fv:jP=eZ (List.replicate 8 128) (List.replicate 8 ⟨0,0,0⟩):=by simp[jP,eZ,uh,aO,List.replicate]
theorem Wj (w:World):Calls Tryz.prog 199 #[] w fun e w'=>e= .returned (.pointer (some ⟨w.heap.size,0,none⟩))∧w.alloc (.cells jP.toArray 254)=w':=by
 have H1:=qd (YQ w);go_in;go_wp2_with fail;refine(H1.out).mono ?_;rintro e w1 ⟨rfl,rfl⟩;go_wp2;go_ret;exact⟨rfl,rfl⟩
theorem TV (gb:Nat)(t:TypeId)(pre post:List Value)(go:Nat)(l:List Nat)(es:List ay)(w:World)(h:bV w gb t pre post go l es):
  Calls Tryz.prog 133 #[bg ⟨gb,go,none⟩] w fun x w'=>x= .returned undef∧bV w' gb t pre post go (List.replicate 8 128) (List.replicate 8 ⟨0,0,0⟩)∧Mod [gb] w w':=by
 have hB:=(Below.refl w.heap.size w).alloc (Nat.le_refl _) (.cells #[.pointer (some ⟨gb,go,none⟩)] 198);have hV:=aj.new w 198 #[.pointer (some ⟨gb,go,none⟩)];obtain⟨W,hW⟩:∃W,W=w.alloc (.cells #[.pointer (some ⟨gb,go,none⟩)] 198):=⟨_,rfl⟩;rw[←hW]at hB hV;have hG:=h.below hB;have HW:=qd hW;have HB:=qd hB;unfold bg;clear hW h hB;go_in;go_upto_region 1 with fail;rw[←HW.out];have v0:=hV.cell 0;simp only[List.getElem?_toArray,List.getElem?_cons_zero]at v0;refine rT (fun(w':World)=>w'.cell? ⟨w.heap.size,0,none⟩=some (.pointer (some ⟨gb,go,none⟩))) [6] ?_;have hHeld:=v0;refine vW 0 rfl ?_;refine vT 1 rfl ?_;refine nT 2 rfl fun K hK=> ?_;go_simp;refine(Wj _).mono ?_;rintro e w1 ⟨rfl,hN⟩;have hb1:Below W.heap.size W w1:=hN▸((Below.refl W.heap.size W).drew).alloc (Nat.le_refl _) _;have hN1:aj w1 W.heap.size 254 jP.toArray:=hN▸aj.new W.drew _ _;clear hN;go_wp2_with fail;replace v0:=aA hb1 v0
 have hL:w1.rangeAt W.heap.size 0 jP:=fun j v hv=>by rw[hN1.cell,Nat.zero_add,List.getElem?_toArray];exact hv
 have hG1:=hG.below hb1;have hS:w1.there gb go jP.toArray.size:=fun j hj=>⟨by obtain⟨v,hv⟩:=hG1.ex j hj;rw[hv];rfl,hG1.uV _⟩;have hHeld:=v0;refine kO hK ?_;clear hK K;refine nT 3 rfl fun K hK=> ?_;go_simp;refine kO hK ?_;clear hK K;refine nT 4 rfl fun K hK=> ?_;rw[if_pos (by rfl)];refine wp_load_mid 254 (.tmp 5) rfl W.heap.size 0 rfl jP _ hL Tryz.underlying254 rfl (by kernel_rfl) ?_;refine kO hK ?_;clear hK K;refine vW 5 rfl ?_;refine nT 6 rfl fun K hK=> ?_;rw[if_pos (by rfl)];refine wp_store_mid 254 (.tmp 7) (.tmp 6) rfl gb go jP.toArray rfl rfl hS (by kernel_rfl) (by simp[jP];exact⟨rfl,rfl⟩) ?_;refine kO hK ?_;clear hK K;refine aX (by kernel_rfl) ?_ _;have hM2:Mod [gb] w (w1.setCells gb go jP):=Ol (by simp) _ _ _ (Mod.of_below (bP hb1 HB.out) [gb])
 have hG2:bV (w1.setCells gb go jP) gb t pre post go (List.replicate 8 128) (List.replicate 8 ⟨0,0,0⟩):=
  ⟨hG.len,by simp,qX (by omega),by simp,by have:=Oj jP (eZ l es) pre w1 (by rw[eZ,List.length_cons,fU,hG.e8];rfl) (hG.below hb1).blk;rw[hG.len,Fv]at this;rw[Fv];exact this⟩
 have HP:=qd (And.intro hG2 hM2);clear hG2 hM2;go_wp2;go_end0;exact⟨rfl,HP.out.1,HP.out.2⟩
end Go.Proofs.YtjfgpnapccdnlaaGreatDoor
