/- The errors of package api as variables of the world; errors.Is of them; their numbers (amblernum.Num, .all). -/
import Derived.LaidEql
import Derived.Stop.Asserts
import Derived.RowKitTokens
import Derived.Test.YtkddpchpcepjgaaGreatDoorCoO
namespace Go.Proofs.YtkddpchpcepjgaaGreatDoor
set_option maxRecDepth 100000
set_option maxHeartbeats 1000000
open Go.RowKit Go.Extern.Stop Go.Stop Go.Extern cu
theorem QQ:type_of% @List.mem_map_of_mem:=@List.mem_map_of_mem
theorem yn:type_of% @List.flatMap_cons:=@List.flatMap_cons
theorem ky:type_of% @Nat.add_zero:=@Nat.add_zero
theorem Kx:type_of% @List.ext_getElem?:=@List.ext_getElem?
section
variable {E : Nat -> Addr} {w w' : World} {B j : Nat}
theorem OA (v:Value)(w:World):(Extern.ReflectliteType.typeOf #[.iface 333 v]).run Tryz.prog w= .ok (.iface 161 (.agg #[.pointer (some ⟨17,333,none⟩)])) w:=by kernel_rfl
def ZJ:Array Value->Sem Value:=Extern.ReflectliteType.method λt=>do Extern.Rtype.noPackHeld "Comparable" t;pure (.bool (<-typeInfo t).comparable)
theorem DJ (w:World):(ZJ #[.agg #[.pointer (some ⟨17,333,none⟩)]]).run Tryz.prog w= .ok (.bool true) w:=by kernel_rfl
theorem wC (v:Value)(w:World):(Go.method 485 161 v "Comparable").run Tryz.prog w= .ok (298,v) w:=by kernel_rfl
theorem Wy:(Tryz.prog.info? 333).map (·.comparable)=some true:=by kernel_rfl
theorem Wz:(Tryz.prog.info? 373).map (·.size)=some 1:=by kernel_rfl
theorem afC (v:Value)(xT:TypeId)(w:World):(Instr.typeAssert (.iface 333 v) xT 163 true).run Tryz.prog w= .ok (.tuple #[.nilIface,.bool false]) w:=run_typeAssert_lacksB Tryz.underlying163 (by kernel_rfl) (by kernel_rfl) v xT w
theorem WA (v:Value)(xT:TypeId)(w:World):(Instr.typeAssert (.iface 333 v) xT 166 true).run Tryz.prog w= .ok (.tuple #[.nilIface,.bool false]) w:=run_typeAssert_lacksB Tryz.underlying166 (by kernel_rfl) (by kernel_rfl) v xT w
theorem Uu (v:Value)(xT:TypeId)(w:World):(Instr.typeAssert (.iface 333 v) xT 167 true).run Tryz.prog w= .ok (.tuple #[.nilIface,.bool false]) w:=run_typeAssert_lacksB Tryz.underlying167 (by kernel_rfl) (by kernel_rfl) v xT w
def ahv (a:Addr):Value:= .iface 333 (.pointer (some a))
theorem Ku (a:Addr)(w:World):
  Calls Tryz.prog 33 #[.iface 333 (.pointer (some a)),.iface 333 (.pointer (some a))] w λe w'=>e= .returned (.bool true)/\w=w':=by
 obtain⟨i,hi,hcmp⟩:=yl.1 Wy;obtain⟨j,hj,hjs⟩:=yl.1 Wz;have h8:=@run_callFunc_extern Tryz.prog 56 _ Extern.ReflectliteType.typeOf Tryz.func56 (by kernel_rfl) (by kernel_rfl) (by kernel_rfl) (by kernel_rfl);have h32:=@run_callFunc_extern Tryz.prog 298 _ ZJ Tryz.func298 (by kernel_rfl) (by kernel_rfl) (by kernel_rfl) (by kernel_rfl);have tT:=OA;have cT:=DJ;have mR:=wC;have heq:=run_eql_iface_ptr_same (P:=Tryz.prog) w a Tryz.underlying29 Tryz.underlying333 hi hcmp hj;go_in;go_wp2;refine wp_loop_rounds 1 ?_;rw[rounds_succ];go_wp2;go_ret;exact⟨rfl,rfl⟩
theorem ZK (a b:Addr)(ca cb:Array Value)(ta tb:TypeId)(w:World)(hne:a≠b)(ha:w.heap[a.block]?=some (.cells ca ta (0,0)))(hb:w.heap[b.block]?=some (.cells cb tb (0,0))):
  Calls Tryz.prog 33 #[.iface 333 (.pointer (some a)),.iface 333 (.pointer (some b))] w λe w'=>e= .returned (.bool false)/\w=w':=by
 obtain⟨i,hi,hcmp⟩:=yl.1 Wy;obtain⟨j,hj,hjs⟩:=yl.1 Wz;have h8:=@run_callFunc_extern Tryz.prog 56 _ Extern.ReflectliteType.typeOf Tryz.func56 (by kernel_rfl) (by kernel_rfl) (by kernel_rfl) (by kernel_rfl);have h32:=@run_callFunc_extern Tryz.prog 298 _ ZJ Tryz.func298 (by kernel_rfl) (by kernel_rfl) (by kernel_rfl) (by kernel_rfl);have tT:=OA;have cT:=DJ;have mR:=wC;have nE:=afC;have uE:=WA;have vE:=Uu;have heq:=run_eql_iface_ptr_other (P:=Tryz.prog) w Tryz.underlying29 Tryz.underlying333 hi hcmp hj (by rw[hjs];decide) hne ha hb;go_in;go_wp2;refine wp_loop_rounds 1 ?_;rw[rounds_succ];go_wp2;go_ret;exact⟨rfl,rfl⟩
def gE:Nat->Nat
 |1=>0 |2=>3 |3=>2 |4=>1 |5=>4 |6=>5 |7=>6 |8=>7
 |9=>8 |10=>9 |11=>10 |12=>11 |13=>12 |14=>13 |15=>14 |_=>15
structure eU (E:Nat->Addr)(w:World):Prop where
 cell:∀k,1<=k->k<=16->w.cell? ⟨gE k,0,none⟩=some (.iface 333 (.pointer (some (E k))))
 obj:∀k,1<=k->k<=16->∃c t,w.heap[(E k).block]?=some (.cells c t (0,0))
 inj:∀j k,1<=j->j<=16->1<=k->k<=16->E j=E k->j=k
theorem eU.of_block (h:eU E w)(hb:∀k,k<w.heap.size->w'.heap[k]?=w.heap[k]?):eU E w':=by
 refine⟨λk h1 h2=> ?_,λk h1 h2=> ?_,h.inj⟩
 ·have hc:=h.cell k h1 h2;rw[World.cell?_of_block (w:=w) (hb _ (qt w _ hc))];exact hc
 ·obtain⟨c,t,ho⟩:=h.obj k h1 h2;have:(E k).block<w.heap.size:=(qi.1 ho).1;exact⟨c,t,(hb _ this).trans ho⟩
theorem eU.below (h:eU E w)(hb:Below B w w')(hB:w.heap.size<=B):eU E w':=h.of_block λk hk=>hb.block k (by omega)
theorem eU.alloc (h:eU E w)(o:Obj):eU E (w.alloc o):=h.of_block λk hk=>Below.heap_alloc w o k hk
theorem eU.drew (h:eU E w):eU E w.drew:=h.of_block λ_ _=>rfl
theorem eU.drewN (h:eU E w)(n:Nat):eU E (w.drewN n):=h.of_block λ_ _=>rfl
def bY (E:Nat->Addr)(w:World)(k:Nat):Prop:=w.cell? ⟨gE k,0,none⟩=some (.iface 333 (.pointer (some (E k))))
theorem bY.of_block (h:bY E w j)(hb:∀k,k<w.heap.size->w'.heap[k]?=w.heap[k]?):bY E w' j:=
 (World.cell?_of_block (hb _ (qt w _ h))).trans h
theorem bY.below (h:bY E w j)(hb:Below B w w')(hB:w.heap.size<=B):bY E w' j:=h.of_block λk hk=>hb.block k (by omega)
theorem bY.alloc (h:bY E w j)(o:Obj):bY E (w.alloc o) j:=h.of_block λk hk=>Below.heap_alloc w o k hk
theorem bY.drewN (h:bY E w j)(n:Nat):bY E (w.drewN n) j:=h.of_block λ_ _=>rfl
theorem eU.at_ (h:eU E w)(k:Nat)(h1:1<=k)(h2:k<=16):bY E w k:=h.cell k h1 h2
def eT (E:Nat->Addr)(k:Nat):Value:=if k=0 then .nilIface else .iface 333 (.pointer (some (E k)))
theorem WB (E:Nat->Addr):eT E 0= .nilIface:=rfl
theorem gH (E:Nat->Addr){k:Nat}(h:1<=k):eT E k= .iface 333 (.pointer (some (E k))):=by unfold eT;rw[if_neg (by omega)]
theorem acV (h:eU E w)(j k:Nat)(h1:1<=j)(h2:j<=16)(h3:1<=k)(h4:k<=16):
  Calls Tryz.prog 33 #[.iface 333 (.pointer (some (E j))),.iface 333 (.pointer (some (E k)))] w λe w'=>e= .returned (.bool (j==k))/\w=w':=by
 by_cases hjk:j=k
 ·subst hjk;exact(Ku (E j) w).mono λe w' ⟨he,hw⟩=>⟨by rw[he];simp,hw⟩
 ·obtain⟨c,t,ho⟩:=h.obj j h1 h2;obtain⟨c',t',ho'⟩:=h.obj k h3 h4;exact(ZK (E j) (E k) c c' t t' w (λe=>hjk (h.inj j k h1 h2 h3 h4 e)) ho ho').mono λe w' ⟨he,hw⟩=>⟨by rw[he];simp[hjk],hw⟩
def rF (E:Nat->Addr):List Value:=(List.range 16).map λi=> .iface 333 (.pointer (some (E (i+1))))
theorem acW (h:eU E w):
  Calls Tryz.prog 32 #[] w λe w'=>e= .returned (.slice (some ⟨w.heap.size,0,none⟩) 16 16)/\w.alloc (.cells (rF E).toArray 29)=w':=by
 have h1:=h.cell 1 (by omega) (by omega);have h2:=h.cell 2 (by omega) (by omega);have h3:=h.cell 3 (by omega) (by omega);have h4:=h.cell 4 (by omega) (by omega);have h5:=h.cell 5 (by omega) (by omega);have h6:=h.cell 6 (by omega) (by omega);have h7:=h.cell 7 (by omega) (by omega);have h8:=h.cell 8 (by omega) (by omega);have h9:=h.cell 9 (by omega) (by omega);have h10:=h.cell 10 (by omega) (by omega);have h11:=h.cell 11 (by omega) (by omega);have h12:=h.cell 12 (by omega) (by omega);have h13:=h.cell 13 (by omega) (by omega);have h14:=h.cell 14 (by omega) (by omega);have h15:=h.cell 15 (by omega) (by omega);have h16:=h.cell 16 (by omega) (by omega);simp only[gE]at h1 h2 h3 h4 h5 h6 h7 h8 h9 h10 h11 h12 h13 h14 h15 h16;go_in;go_wp2;go_ret;exact⟨rfl,rfl⟩
theorem Sw (w:World):Calls Tryz.prog 14 #[.nilIface] w λe w'=>e= .returned (.int .i64 0)/\w=w':=by
 go_in;go_wp2;go_ret;exact⟨rfl,rfl⟩
end
section
def fZ (l:List Nat)(es:List ay):List Value:= .int .u64 ((w8 l:Nat):Int)::es.flatMap aU
structure dB (w:World)(gb:Nat)(t:TypeId)(pre post:List Value)(go:Nat)(l:List Nat)(es:List ay):Prop where
 len:pre.length=go
 l8:l.length=8
 bytes:Bytes l
 e8:es.length=8
 blk:aj w gb t (pre++(fZ l es++post)).toArray
theorem iA (es:List ay):(es.flatMap aU).length=3*es.length:=by
 induction es with
 |nil=>rfl
 |cons e es ih=>simp[aU,ih];omega
theorem GZ (es:List ay)(i j:Nat)(hi:i<es.length)(hj:j<3):(es.flatMap aU)[3*i+j]?=(aU es[i])[j]?:=by
 induction es generalizing i with
 |nil=>simp at hi
 |cons e es ih=>
  rw[yn]
  cases i with
  |zero=>rw[Z2 (by simp[aU];omega)];simp
  |succ i=>
   rw[Z1 (by simp[aU];omega)];have:=ih i (by simpa using hi);rw[show 3*(i+1)+j-(aU e).length=3*i+j by simp[aU];omega,this];rfl
theorem OB (es:List ay)(i:Nat)(hi:i<es.length)(e:ay):(((es.flatMap aU).set (3*i) (nU e.key)).set (3*i+1) (nU e.val)).set (3*i+2) (nU e.hash)=(es.set i e).flatMap aU:=by
 induction es generalizing i with
 |nil=>simp at hi
 |cons x es ih=>
  cases i with
  |zero=>simp[aU]
  |succ i=>
   have h:=ih i (by simpa using hi);have hl:(aU x).length=3:=rfl;rw[j8,yn,yn,<-h,ki _ _ (by omega),ki _ _ (by omega),ki _ _ (by omega)];rw[show 3*(i+1)-(aU x).length=3*i by omega,show 3*(i+1)+1-(aU x).length=3*i+1 by omega,show 3*(i+1)+2-(aU x).length=3*i+2 by omega]
section
variable {w w' : World} {gb go : Nat} {t : TypeId} {pre post : List Value} {l : List Nat} {es : List ay}
theorem dB.lt (h:dB w gb t pre post go l es):gb<w.heap.size:=h.blk.lt
theorem dB.wB (h:dB w gb t pre post go l es)(i:Nat):w.frozen? ⟨gb,i,none⟩=false:=h.blk.frozen i
theorem dB.mod {S:List Nat}(h:dB w gb t pre post go l es)(hm:Mod S w w')(hg:gb∉S):dB w' gb t pre post go l es:=⟨h.len,h.l8,h.bytes,h.e8,h.blk.mod hm hg⟩
instance {w w':World}{gb:Nat}{t:TypeId}{pre post:List Value}{go:Nat}{l:List Nat}{es:List ay}:Md (dB w gb t pre post go l es) w w' (dB w' gb t pre post go l es) (λS=>gb∉S):=⟨λh hm hs=>h.mod hm hs⟩
theorem dB.below (h:dB w gb t pre post go l es)(hb:Below w.heap.size w w'):dB w' gb t pre post go l es:=⟨h.len,h.l8,h.bytes,h.e8,h.blk.below hb h.lt⟩
theorem dB.alloc (h:dB w gb t pre post go l es)(o:Obj):dB (w.alloc o) gb t pre post go l es:=h.below ((Below.refl _ _).alloc (zb _) o)
theorem dB.word (h:dB w gb t pre post go l es):w.cell? ⟨gb,go,none⟩=some (.int .u64 ((w8 l:Nat):Int)):=by
 rw[h.blk.cell,zr,Z1 (by have:=h.len;omega)];simp[fZ,h.len]
theorem dB.at_ (h:dB w gb t pre post go l es)(i j:Nat)(hi:i<8)(hj:j<3):w.cell? ⟨gb,go+1+i*3+j,none⟩=(aU (es.getD i ⟨0,0,0⟩))[j]?:=by
 have h8:i<es.length:=by have:=h.e8;omega
 rw[h.blk.cell,zr,Z1 (by have:=h.len;omega),Z2 (by have:=h.len;rw[fZ,ZS,iA];omega)];rw[show go+1+i*3+j-pre.length=(3*i+j)+1 by have:=h.len;omega,fZ,Q2,GZ es i j h8 hj,cu.getD_in h8]
theorem dB.acX (h:dB w gb t pre post go l es)(i:Nat)(hi:i<8)(v:Nat):dB (w.setCell ⟨gb,go+1+i*3+1,none⟩ (nU v)) gb t pre post go l (es.set i {es.getD i ⟨0,0,0⟩with val:=v}):=by
 have h8:i<es.length:=by have:=h.e8;omega
 refine⟨h.len,h.l8,h.bytes,by rw[qq];exact h.e8, ?_⟩;have:=h.blk.ak (go+(3*i+1+1)) (nU v);rw[<-h.len,set_mid _ _ _ _ _ (by rw[fZ,ZS,iA];omega)]at this;rw[fZ,j8]at this;have e1:=OB es i h8 {es.getD i ⟨0,0,0⟩with val:=v};have g0:=GZ es i 0 h8 (by omega);have g2:=GZ es i 2 h8 (by omega);rw[cu.getD_in h8]at e1|-;simp only[aU,ky,zc,Q2]at g0 g2
 have hk:(es.flatMap aU).set (3*i) (.int .u64 (es[i].key:Int))=es.flatMap aU:=by
  apply Kx;intro k;rw[qr];split
  ·next hk=>subst hk;rw[if_pos (by rw[iA];omega),g0]
  ·rfl
 have hh:((es.flatMap aU).set (3*i+1) (nU v)).set (3*i+2) (.int .u64 (es[i].hash:Int))=(es.flatMap aU).set (3*i+1) (nU v):=by
  apply Kx;intro k;rw[qr];split
  ·next hk=>subst hk;rw[if_pos (by rw[qq,iA];omega),List.getElem?_set_ne (by omega),g2]
  ·rfl
 dsimp only at e1;rw[hk,hh]at e1;rw[e1]at this;rw[<-h.len];rw[show pre.length+1+i*3+1=pre.length+(3*i+1+1) by omega];exact this
theorem dB.ZL (h:dB w gb t pre post go l es)(i b:Nat)(hb:b<256):dB (w.setCell ⟨gb,go,none⟩ (.int .u64 ((w8 (l.set i b):Nat):Int))) gb t pre post go (l.set i b) es:=by
 refine⟨h.len,by rw[qq];exact h.l8,λx hx=> ?_,h.e8, ?_⟩
 ·rcases kc hx with hx|rfl
  ·exact h.bytes x hx
  ·exact hb
 ·have:=h.blk.ak (go+0) (.int .u64 ((w8 (l.set i b):Nat):Int));rw[<-h.len,set_mid _ _ _ _ _ (by simp[fZ])]at this;rw[<-h.len];exact this
theorem dB.Kv (h:dB w gb t pre post go l es)(i:Nat)(hi:i<8)(e:ay):dB (((w.setCell ⟨gb,go+1+i*3,none⟩ (nU e.key)).setCell ⟨gb,go+1+i*3+1,none⟩ (nU e.val)).setCell ⟨gb,go+1+i*3+2,none⟩ (nU e.hash)) gb t pre post go l (es.set i e):=by
 have h8:i<es.length:=by have:=h.e8;omega
 refine⟨h.len,h.l8,h.bytes,by rw[qq];exact h.e8, ?_⟩;have:=((h.blk.ak (go+(3*i+1)) (nU e.key)).ak (go+(3*i+1+1)) (nU e.val)).ak (go+(3*i+2+1)) (nU e.hash);rw[<-h.len,set_mid _ _ _ _ _ (by rw[fZ,ZS,iA];omega),set_mid _ _ _ _ _ (by rw[qq,fZ,ZS,iA];omega),set_mid _ _ _ _ _ (by rw[qq,qq,fZ,ZS,iA];omega)]at this;rw[fZ,j8,j8,j8,OB es i h8 e]at this;rw[<-h.len];rw[show pre.length+1+i*3=pre.length+(3*i+1) by omega,show pre.length+(3*i+1)+1=pre.length+(3*i+1+1) by omega,show pre.length+(3*i+1)+2=pre.length+(3*i+2+1) by omega];exact this
end
theorem pO (gb:Nat)(t:TypeId)(pre post:List Value)(go:Nat)(l:List Nat)(es:List ay)(i:Nat)(hi:i<8)(must:Bool)(w:World)(h:dB w gb t pre post go l es)(hm:decide (l.getD i 0<128)=must):
  Calls Tryz.prog 205 #[bG ⟨gb,go,none⟩,nI i,.bool must] w λe w'=>e= .returned .nilIface/\Below w.heap.size w w':=by
 have HG:=qd (GU l h.bytes i hi);have hw:=(h.alloc (.cells #[.pointer (some ⟨gb,go,none⟩)] 211)).word
 have h1:¬(i:Int)<0:=by omega
 have h2:¬(i:Int)>=8:=by omega
 unfold bG;clear h;generalize l.getD i 0=b at*
 have hc:decide ((b:Int)<128)=must:=by rw[<-hm];exact decide_eq_decide.2 (by omega)
 clear hm;cases must
 case' true=>
  have hc':(b:Int)<128:=by simpa using hc
 case' false=>
  have hc':¬(b:Int)<128:=by simpa using hc
 all_goals
  clear hc;go_in;go_wp2_with (first|(refine(HG.o _).mono ?_;rintro e w1 ⟨rfl,rfl⟩));go_ret;exact⟨rfl,(Below.refl _ _).alloc (zb _) _⟩
theorem OC (gb:Nat)(t:TypeId)(pre post:List Value)(go:Nat)(l:List Nat)(es:List ay)(i:Nat)(hi:i<8)(w:World)(h:dB w gb t pre post go l es)(hm:¬l.getD i 0<128)(E:Nat->Addr)(hE:bY E w 5):
  Calls Tryz.prog 205 #[bG ⟨gb,go,none⟩,nI i,.bool true] w λe w'=>e= .returned (.iface 333 (.pointer (some (E 5))))/\Below w.heap.size w w':=by
 have HG:=qd (GU l h.bytes i hi);have hw:=(h.alloc (.cells #[.pointer (some ⟨gb,go,none⟩)] 211)).word;have hE':(w.alloc (.cells #[.pointer (some ⟨gb,go,none⟩)] 211)).cell? ⟨4,0,none⟩=some (.iface 333 (.pointer (some (E 5)))):=hE.alloc _
 have h1:¬(i:Int)<0:=by omega
 have h2:¬(i:Int)>=8:=by omega
 unfold bG;clear h hE;generalize l.getD i 0=b at*
 have hc':¬(b:Int)<128:=by omega
 have hd':decide ((b:Int)<128)=false:=kb hc';clear hm;go_in;go_wp2_with (first|(refine(HG.o _).mono ?_;rintro e w1 ⟨rfl,rfl⟩));go_ret;exact⟨rfl,(Below.refl _ _).alloc (zb _) _⟩
theorem OD (gb:Nat)(t:TypeId)(pre post:List Value)(go:Nat)(l:List Nat)(es:List ay)(i:Nat)(hi:i<8)(w:World)(h:dB w gb t pre post go l es)(hm:l.getD i 0<128):
  Calls Tryz.prog 160 #[bG ⟨gb,go,none⟩,nI i] w λe w'=>e= .returned (.tuple #[aP (es.getD i ⟨0,0,0⟩),.bool true])/\Below w.heap.size w w':=by
 have hB:=((Below.refl w.heap.size w).alloc (zb _) (.cells #[.pointer (some ⟨gb,go,none⟩)] 211)).alloc (by simp) (.cells #[.int .u64 0,.int .u64 0,.int .u64 0] 67);have hV:=(aj.new w 211 #[.pointer (some ⟨gb,go,none⟩)]).alloc (.cells #[.int .u64 0,.int .u64 0,.int .u64 0] 67);have hD:=aj.new (w.alloc (.cells #[.pointer (some ⟨gb,go,none⟩)] 211)) 67 #[.int .u64 0,.int .u64 0,.int .u64 0];rw[xN]at hD;obtain⟨W,hW⟩:∃W,W=(w.alloc (.cells #[.pointer (some ⟨gb,go,none⟩)] 211)).alloc (.cells #[.int .u64 0,.int .u64 0,.int .u64 0] 67):=⟨_,rfl⟩;rw[<-hW]at hB hD hV;have hG:=h.below hB;have HF:=qd (pO gb t pre post go l es i hi true W hG (Xs hm));have HW:=qd hW;have I8:i<8:=hi;have e0:=hG.at_ i 0 hi (by omega);rw[ky]at e0;have e1:=hG.at_ i 1 hi (by omega);have e2:=hG.at_ i 2 hi (by omega);unfold bG at HF|-;unfold aP;clear hW hG h hi;generalize es.getD i ⟨0,0,0⟩=x at*;simp only[aU,zc,Q2]at e0 e1 e2;go_in;go_wp2_with fail;rw[<-HW.o];have v0:=hV.cell 0;simp only[zr,zc]at v0;go_wp2_with fail;refine(HF.o).mono ?_;rintro e w1 ⟨rfl,hb⟩;replace v0:=aA hb v0;replace e0:=aA hb e0;replace e1:=aA hb e1;replace e2:=aA hb e2;have hD1:=hD.below hb hD.lt;obtain⟨f0,f1,f2⟩:=hD1.f3;obtain⟨d0,d1,d2⟩:=hD1.c3;have hB1:=qd (bN hb hB);clear hb hB hD hV;go_wp2
 refine bodyPost_ret (v:= .tuple #[.agg #[nU x.key,nU x.val,nU x.hash],.bool true]) ?_ rfl ⟨rfl, ?_⟩
 ·simp[results,Tryz.results160,go_sem,d0,d1,d2]
 ·repeat (with_reducible first|exact hB1.o|refine Below.setCell ?_ ?_ _)
  all_goals (simp;try omega)
end
theorem Uv (gb:Nat)(t:TypeId)(pre post:List Value)(go:Nat)(l:List Nat)(es:List ay)(i:Nat)(hi:i<8)(w:World)(h:dB w gb t pre post go l es)(hm:¬l.getD i 0<128)(E:Nat->Addr)(hE:bY E w 5):
  Calls Tryz.prog 160 #[bG ⟨gb,go,none⟩,nI i] w λe w'=>e= .returned (.tuple #[aP ⟨0,0,0⟩,.bool false])/\Below w.heap.size w w':=by
 obtain⟨W,hW,hB,hV,hD⟩:=lI w 211 #[.pointer (some ⟨gb,go,none⟩)] 67 #[.int .u64 0,.int .u64 0,.int .u64 0];have HF:=qd (OC gb t pre post go l es i hi W (h.below hB) hm E (hE.below hB (zb _)));have HW:=qd hW;unfold bG at HF|-;unfold aP;clear hW h hi hE hm;go_in;go_wp2_with fail;rw[<-HW.o];have v0:=hV.cell 0;simp only[zr,zc]at v0;go_wp2_with fail;refine(HF.o).mono ?_;rintro e w1 ⟨rfl,hb⟩;have hD1:=hD.below hb hD.lt;obtain⟨d0,d1,d2⟩:=hD1.c3;obtain⟨f0,f1,f2⟩:=hD1.f3;have hB1:=qd (bN hb hB);clear hb hB hD hV;go_wp2;refine bodyPost_ret (v:= .tuple #[.agg #[.int .u64 0,.int .u64 0,.int .u64 0],.bool false]) ?_ rfl ⟨rfl, ?_⟩
 ·simp[results,Tryz.results160,go_sem,d0,d1,d2]
 ·repeat (with_reducible first|exact hB1.o|refine Below.setCell ?_ ?_ _)
  all_goals (simp;try omega)
theorem WC (gb:Nat)(t:TypeId)(pre post:List Value)(go:Nat)(l:List Nat)(es:List ay)(w:World)(h:dB w gb t pre post go l es)(hT:gW w):
  Calls Tryz.prog 157 #[bG ⟨gb,go,none⟩] w λe w'=>e= .returned (.int .i64 (uZ (firstM (l.map eZ))))/\Below w.heap.size w w':=by
 have hg:=(qt w _ (hT 0 (by omega)));have hB:=(Below.refl w.heap.size w).alloc (zb _) (.cells #[.pointer (some ⟨gb,go,none⟩)] 211);have hV:=aj.new w 211 #[.pointer (some ⟨gb,go,none⟩)];obtain⟨W,hW⟩:∃W,W=w.alloc (.cells #[.pointer (some ⟨gb,go,none⟩)] 211):=⟨_,rfl⟩;rw[<-hW]at hB hV;have hG:=h.below hB;have hT1:gW W:=λi hi=>(hB.cell (p:=⟨16,qD i,none⟩) hg).trans (hT i hi);have H1:=qd (Uj l h.l8 h.bytes);have H2:=qd (Uh (l.map eZ) (by simpa using h.l8) (rR l).bytes W hT1);rw[wh (rR l)]at H2;have HW:=qd hW;have hw:=hG.word;have v0:=hV.cell 0;simp only[zr,zc]at v0;have HB:=qd hB;unfold bG;clear hW h hT hT1 hG hB hV;go_in;go_upto_region 1 with fail;rw[<-HW.o];go_wp2_with fail;refine(H1.o _).mono ?_;rintro e w1 ⟨rfl,rfl⟩;go_wp2_with fail;refine H2.o.mono ?_;rintro e w1 ⟨rfl,rfl⟩;go_wp2;go_ret;exact⟨rfl,HB.o⟩
theorem WE {l:List Nat}:(((w8 (l.map (l9 128)):Nat):Int) !=0)=l.any (·==128):=by
 cases hb:l.any (·==128)with
 |true=>
  rw[bne_iff_ne];intro h0;obtain⟨x,hx,he⟩:=QR.1 hb;have:=(AR _).1 (by omega:w8 (l.map (l9 128))=0) (l9 128 x) (QQ hx);rw[x7]at he;subst he;simp[l9]at this
 |false=>
  rw[bne_eq_false_iff_eq]
  have:w8 (l.map (l9 128))=0:=(AR _).2 λb hx=>by
   obtain⟨y,hy,rfl⟩:=Z3.1 hx;have:=List.any_eq_false.1 hb y hy;unfold l9;rw[if_neg (by simpa using this)]
  omega
theorem DK (gb:Nat)(t:TypeId)(pre post:List Value)(go:Nat)(l:List Nat)(es:List ay)(w:World)(h:dB w gb t pre post go l es):
  Calls Tryz.prog 159 #[bG ⟨gb,go,none⟩] w λe w'=>e= .returned (.bool (l.any (·==128)))/\Below w.heap.size w w':=by
 have hB:=(Below.refl w.heap.size w).alloc (zb _) (.cells #[.pointer (some ⟨gb,go,none⟩)] 211);have hV:=aj.new w 211 #[.pointer (some ⟨gb,go,none⟩)];obtain⟨W,hW⟩:∃W,W=w.alloc (.cells #[.pointer (some ⟨gb,go,none⟩)] 211):=⟨_,rfl⟩;rw[<-hW]at hB hV;have hG:=h.below hB;have H1:=qd (Ot l h.l8 h.bytes);have HO:=qd (WE (l:=l));have HW:=qd hW;have hw:=hG.word;have v0:=hV.cell 0;simp only[zr,zc]at v0;have HB:=qd hB;unfold bG;clear hW h hG hB hV;generalize w8 (l.map (l9 128))=m at*;generalize l.any (·==128)=o at*;go_in;go_upto_region 1 with fail;rw[<-HW.o];go_wp2_with fail;refine(H1.o _).mono ?_;rintro e w1 ⟨rfl,rfl⟩;have ho:=HO.o;go_wp2;go_ret;exact⟨rfl,HB.o⟩
theorem DL (gb:Nat)(t:TypeId)(pre post:List Value)(go:Nat)(l:List Nat)(es:List ay)(i b:Nat)(hi:i<8)(kF:b<256)(hb:b<=128\/b=254)(w:World)(h:dB w gb t pre post go l es):
  Calls Tryz.prog 207 #[bG ⟨gb,go,none⟩,nI i,.int .u8 (b:Int)] w λe w'=>e= .returned undef/\dB w' gb t pre post go (l.set i b) es/\Mod [gb] w w':=by
 have hB:=(Below.refl w.heap.size w).alloc (zb _) (.cells #[.pointer (some ⟨gb,go,none⟩)] 211);have hV:=aj.new w 211 #[.pointer (some ⟨gb,go,none⟩)];obtain⟨W,hW⟩:∃W,W=w.alloc (.cells #[.pointer (some ⟨gb,go,none⟩)] 211):=⟨_,rfl⟩;rw[<-hW]at hB hV;have hG:=h.below hB;have hlt:=h.lt;have H1:=qd (Zy l h.l8 h.bytes i b hi kF hb);have HW:=qd hW;have hw:=hG.word;have v0:=hV.cell 0;simp only[zr,zc]at v0;have HB:=qd hB;unfold bG;clear hW h hB hV hi hb;go_in;go_upto_region 1 with fail;rw[<-HW.o];go_wp2_with fail;refine(H1.o _).mono ?_;rintro e w1 ⟨rfl,n,rfl⟩;have hf:=hG.wB go;have HS:=qd (show dB (W.drewN n) gb t pre post go l es from⟨hG.len,hG.l8,hG.bytes,hG.e8,hG.blk.drewN n⟩);clear hG;go_wp2;go_end0;exact⟨rfl,HS.o.ZL i b kF,((Mod.of_below HB.o [gb]).then (Mod.drewN [gb] W n)).ak (.inl (by simp)) _ _⟩
theorem dB.drew {w:World}{gb go:Nat}{t:TypeId}{pre post:List Value}{l:List Nat}{es:List ay}(h:dB w gb t pre post go l es):dB w.drew gb t pre post go l es:=⟨h.len,h.l8,h.bytes,h.e8,h.blk.drew⟩
theorem ZM (gb:Nat)(t:TypeId)(pre post:List Value)(go:Nat)(l:List Nat)(es:List ay)(i:Nat)(hi:i<8)(e:ay)(h64:e.hash<18446744073709551616)(w:World)(h:dB w gb t pre post go l es)(hm:¬l.getD i 0<128):
  Calls Tryz.prog 163 #[bG ⟨gb,go,none⟩,nI i,aP e] w λx w'=>x= .returned (.tuple #[.bool (l.getD i 0==254),.nilIface])/\dB w' gb t pre post go (l.set i (e.hash % 128)) (es.set i e)/\Mod [gb] w w':=by
 obtain⟨W,hW,hB,hV,hE⟩:=lI w 211 #[.pointer (some ⟨gb,go,none⟩)] 67 #[nU e.key,nU e.val,nU e.hash];have hG:=h.below hB;have hlt:=h.lt;have HF:=qd (pO gb t pre post go l es i hi false W hG (kb hm));have HGt:=qd (GU l h.bytes i hi);have H2:=qd (Ow e.hash h64);have HM:=qd (λ(u:World) (hu:dB u gb t pre post go l (es.set i e))=>DL gb t pre post go l (es.set i e) i (e.hash % 128) hi (by omega) (.inl (by omega)) u hu)
 have I8:(i:Int)<8:=by omega
 have hi0:(0:Int)<=(i:Int):=by omega
 have HO:∀b:Nat,(((b:Nat):Int)==254)=(b==254):=λb=>by rw[xy,x7,x7];omega
 have uJ:=qd (HO (l.getD i 0));have HW:=qd hW;have HB:=qd hB
 have hne:gb≠w.heap.size:=by omega
 have hne1:gb≠w.heap.size+1:=by omega
 unfold bG at HF HM|-;unfold aP;clear hW h hB hm HO;generalize(l.getD i 0==254)=o at*;generalize l.getD i 0=b at*;go_in;go_upto_region 1 with fail;rw[<-HW.o];have v0:=hV.cell 0;simp only[zr,zc]at v0;go_wp2_with fail;refine(HF.o).mono ?_;rintro e w1 ⟨rfl,hb⟩;replace hG:=hG.below hb;have hE1:=hE.below hb hE.lt;replace v0:=aA hb v0;have hw:=hG.word;obtain⟨e0,e1,e2⟩:=hE1.c3;go_wp2_with fail;refine(HGt.o _).mono ?_;rintro e w2 ⟨rfl,rfl⟩;have ho:=uJ.o;go_upto_region 5 with fail;have s0:=hG.at_ i 0 hi (by omega);have s1:=hG.at_ i 1 hi (by omega);have s2:=hG.at_ i 2 hi (by omega);rw[ky]at s0;simp only[aU,zc,Q2]at s0 s1 s2;have g0:=hG.wB (go+1+i*3);have g1:=hG.wB (go+1+i*3+1);have g2:=hG.wB (go+1+i*3+2);refine rT (λw'=>w'=World.drew w1) [7] ?_;have hHeld:(λw'=>w'=World.drew w1) (World.drew w1):=rfl;refine vW 0 rfl ?_;refine vT 1 rfl ?_;refine vW 2 rfl ?_;refine vT 3 rfl ?_;refine vW 4 rfl ?_;refine vW 5 rfl ?_;refine vW 6 rfl ?_;refine nT 7 rfl λK hK=> ?_;go_simp;refine kO hK ?_;clear hK K;refine aV (by kernel_rfl) ?_ _;obtain⟨w2,hw2⟩:∃w2,w2=(((w1.setCell ⟨gb,go+1+i*3,none⟩ (nU e.key)).setCell ⟨gb,go+1+i*3+1,none⟩ (nU e.val)).setCell ⟨gb,go+1+i*3+2,none⟩ (nU e.hash)).drew:=⟨_,rfl⟩;rw[<-hw2];have hG2:dB w2 gb t pre post go l (es.set i e):=hw2▸(hG.Kv i hi e).drew
 have hV2:aj w2 w.heap.size 211 #[.pointer (some ⟨gb,go,none⟩)]:=by
  rw[hw2];exact(((aj.far (hV.below hb hV.lt) (p:=⟨gb,go+1+i*3,none⟩) (Ks hne) _).far (p:=⟨gb,go+1+i*3+1,none⟩) (Ks hne) _).far (p:=⟨gb,go+1+i*3+2,none⟩) (Ks hne) _).drew
 have hE2:aj w2 (w.heap.size+1) 67 #[nU e.key,nU e.val,nU e.hash]:=by
  rw[hw2];exact(((hE1.far (p:=⟨gb,go+1+i*3,none⟩) (Ks hne1) _).far (p:=⟨gb,go+1+i*3+1,none⟩) (Ks hne1) _).far (p:=⟨gb,go+1+i*3+2,none⟩) (Ks hne1) _).drew
 have hM2:Mod [gb] w w2:=by
  rw[hw2];exact((((((Mod.of_below HB.o [gb]).then (Mod.of_below hb [gb])).ak (.inl (by simp)) _ _).ak (.inl (by simp)) _ _).ak (.inl (by simp)) _ _)).then (Mod.drewN [gb] _ 1)
 have HW2:=qd (And.intro hG2 hM2);clear hw2 hG2 hM2 v0 hw e0 e1 e2 s0 s1 s2 g0 g1 g2 hE1 hb hE hV hG;go_upto_region 6 with fail;have v0:=hV2.cell 0;have e2:=hE2.cell 2;simp only[gl]at v0 e2;refine rT (λw'=>w'=World.drew w2) [5] ?_;have hHeld:(λw'=>w'=World.drew w2) (World.drew w2):=rfl;refine vT 0 rfl ?_;refine vW 1 rfl ?_;refine vW 2 rfl ?_;refine vT 3 rfl ?_;refine nT 4 rfl λK hK=> ?_;go_simp;refine(H2.o _).mono ?_;rintro e w1 ⟨rfl,rfl⟩;go_wp2_with fail;have hHeld:=show(λw'=>w'=World.drew w2) _ from rfl;refine kO hK ?_;clear hK K;refine nT 5 rfl λK hK=> ?_;go_simp;refine(HM.o _ HW2.o.1.drew).mono ?_;rintro e w3 ⟨rfl,hG3,gQ⟩;have HG3:=qd hG3;have OE:=qd gQ;clear hG3 gQ;go_wp2_with fail;refine kO hK ?_;clear hK K;refine aV (by kernel_rfl) ?_ _;go_wp2;refine bodyPost_ret (v:= .tuple #[.bool o,.nilIface]) (by simp[results,Tryz.results163,go_sem]) rfl ⟨rfl,HG3.o,(HW2.o.2.then (Mod.drewN [gb] _ 1)).then OE.o⟩
theorem ZN (gb:Nat)(t:TypeId)(pre post:List Value)(go:Nat)(l:List Nat)(es:List ay)(i:Nat)(hi:i<8)(v:Nat)(w:World)(h:dB w gb t pre post go l es)(hm:l.getD i 0<128):
  Calls Tryz.prog 161 #[bG ⟨gb,go,none⟩,nI i,nU v] w λx w'=>x= .returned .nilIface/\dB w' gb t pre post go l (es.set i {es.getD i ⟨0,0,0⟩with val:=v})/\Mod [gb] w w':=by
 have hB:=(Below.refl w.heap.size w).alloc (zb _) (.cells #[.pointer (some ⟨gb,go,none⟩)] 211);have hV:=aj.new w 211 #[.pointer (some ⟨gb,go,none⟩)];obtain⟨W,hW⟩:∃W,W=w.alloc (.cells #[.pointer (some ⟨gb,go,none⟩)] 211):=⟨_,rfl⟩;rw[<-hW]at hB hV;have hG:=h.below hB;have HF:=qd (pO gb t pre post go l es i hi true W hG (Xs hm))
 have I8:(i:Int)<8:=by omega
 have hi0:(0:Int)<=(i:Int):=by omega
 have HW:=qd hW;have HB:=qd hB;unfold bG at HF|-;clear hW h hB hm;go_in;go_upto_region 1 with fail;rw[<-HW.o];have v0:=hV.cell 0;simp only[zr,zc]at v0;go_wp2_with fail;refine(HF.o).mono ?_;rintro e w1 ⟨rfl,hb⟩;replace hG:=hG.below hb;replace v0:=aA hb v0;have s1:=hG.at_ i 1 hi (by omega);simp only[aU,zc,Q2]at s1;have g1:=hG.wB (go+1+i*3+1);have HG1:=qd (hG.acX i hi v);have Lm:=qd (((Mod.of_below HB.o [gb]).then (Mod.of_below hb [gb])).sl (go+1+i*3+1) (nU v));clear hG hb hV;go_wp2;go_ret;exact⟨rfl,HG1.o,Lm.o⟩
theorem I9 (gb:Nat)(t:TypeId)(pre post:List Value)(go:Nat)(l:List Nat)(es:List ay)(i:Nat)(hi:i<8)(w:World)(h:dB w gb t pre post go l es)(hm:l.getD i 0<128)(ho:l.any (·==128)=true):
  Calls Tryz.prog 243 #[bG ⟨gb,go,none⟩,nI i] w λx w'=>x= .returned (.tuple #[.bool false,.nilIface])/\dB w' gb t pre post go (l.set i 128) (es.set i ⟨0,0,0⟩)/\Mod [gb] w w':=by
 have hB:=(Below.refl w.heap.size w).alloc (zb _) (.cells #[.pointer (some ⟨gb,go,none⟩)] 211);have hV:=aj.new w 211 #[.pointer (some ⟨gb,go,none⟩)];obtain⟨W,hW⟩:∃W,W=w.alloc (.cells #[.pointer (some ⟨gb,go,none⟩)] 211):=⟨_,rfl⟩;rw[<-hW]at hB hV;have hG:=h.below hB;have hlt:=h.lt;have HF:=qd (pO gb t pre post go l es i hi true W hG (Xs hm))
 have I8:(i:Int)<8:=by omega
 have hi0:(0:Int)<=(i:Int):=by omega
 have hne:gb≠w.heap.size:=by omega
 have HW:=qd hW;have HB:=qd hB;unfold bG at HF|-;clear hW h hB hm;have HM:=qd (λ(u:World) (hu:dB u gb t pre post go l (es.set i ⟨0,0,0⟩))=>DL gb t pre post go l (es.set i ⟨0,0,0⟩) i 128 hi (by omega) (by omega) u hu);unfold bG at HM;go_in;go_upto_region 1 with fail;rw[<-HW.o];have v0:=hV.cell 0;simp only[zr,zc]at v0;go_wp2_with fail;refine(HF.o).mono ?_;rintro e w1 ⟨rfl,hb⟩;replace hG:=hG.below hb;replace hV:=hV.below hb hV.lt;replace v0:=aA hb v0;have HO:=qd (DK gb t pre post go l es w1 hG);rw[ho]at HO;unfold bG at HO;go_wp2_with fail;refine(HO.o).mono ?_;rintro e w2 ⟨rfl,hb2⟩;replace hG:=hG.below hb2;replace hV:=hV.below hb2 hV.lt;replace v0:=aA hb2 v0;have s0:=hG.at_ i 0 hi (by omega);have s1:=hG.at_ i 1 hi (by omega);have s2:=hG.at_ i 2 hi (by omega);rw[ky]at s0;simp only[aU,zc,Q2]at s0 s1 s2;have g0:=hG.wB (go+1+i*3);have g1:=hG.wB (go+1+i*3+1);have g2:=hG.wB (go+1+i*3+2);go_upto_region 6 with fail;obtain⟨w3,hw3⟩:∃w3,w3=((w2.setCell ⟨gb,go+1+i*3,none⟩ (.int .u64 0)).setCell ⟨gb,go+1+i*3+1,none⟩ (.int .u64 0)).setCell ⟨gb,go+1+i*3+2,none⟩ (.int .u64 0):=⟨_,rfl⟩;rw[<-hw3];have hG3:dB w3 gb t pre post go l (es.set i ⟨0,0,0⟩):=hw3▸(hG.Kv i hi ⟨0,0,0⟩)
 have hV3:aj w3 w.heap.size 211 #[.pointer (some ⟨gb,go,none⟩)]:=by
  rw[hw3];exact((hV.far (p:=⟨gb,go+1+i*3,none⟩) (Ks hne) _).far (p:=⟨gb,go+1+i*3+1,none⟩) (Ks hne) _).far (p:=⟨gb,go+1+i*3+2,none⟩) (Ks hne) _
 have uK:Mod [gb] w w3:=by
  rw[hw3];exact((((((Mod.of_below HB.o [gb]).then (Mod.of_below hb [gb])).then (Mod.of_below hb2 [gb])).ak (.inl (by simp)) _ _).ak (.inl (by simp)) _ _).ak (.inl (by simp)) _ _)
 have HW3:=qd (And.intro hG3 uK);clear hw3 hG3 uK v0 s0 s1 s2 g0 g1 g2 hb hb2 hV hG;have v0:=hV3.cell 0;simp only[zr,zc]at v0;go_wp2_with fail;refine(HM.o _ HW3.o.1).mono ?_;rintro e w4 ⟨rfl,hG4,dO⟩;have HG4:=qd hG4;have FY:=qd (HW3.o.2.then dO);clear hG4 dO;go_wp2;refine bodyPost_ret (v:= .tuple #[.bool false,.nilIface]) (by simp[results,Tryz.results243,go_sem]) rfl ⟨rfl,HG4.o,FY.o⟩
theorem Ja (gb:Nat)(t:TypeId)(pre post:List Value)(go:Nat)(l:List Nat)(es:List ay)(i:Nat)(hi:i<8)(w:World)(h:dB w gb t pre post go l es)(hm:l.getD i 0<128)(ho:l.any (·==128)=false):
  Calls Tryz.prog 243 #[bG ⟨gb,go,none⟩,nI i] w λx w'=>x= .returned (.tuple #[.bool true,.nilIface])/\dB w' gb t pre post go (l.set i 254) (es.set i ⟨0,0,0⟩)/\Mod [gb] w w':=by
 have hB:=(Below.refl w.heap.size w).alloc (zb _) (.cells #[.pointer (some ⟨gb,go,none⟩)] 211);have hV:=aj.new w 211 #[.pointer (some ⟨gb,go,none⟩)];obtain⟨W,hW⟩:∃W,W=w.alloc (.cells #[.pointer (some ⟨gb,go,none⟩)] 211):=⟨_,rfl⟩;rw[<-hW]at hB hV;have hG:=h.below hB;have hlt:=h.lt;have HF:=qd (pO gb t pre post go l es i hi true W hG (Xs hm))
 have I8:(i:Int)<8:=by omega
 have hi0:(0:Int)<=(i:Int):=by omega
 have hne:gb≠w.heap.size:=by omega
 have HW:=qd hW;have HB:=qd hB;unfold bG at HF|-;clear hW h hB hm;have HM:=qd (λ(u:World) (hu:dB u gb t pre post go l (es.set i ⟨0,0,0⟩))=>DL gb t pre post go l (es.set i ⟨0,0,0⟩) i 254 hi (by omega) (by omega) u hu);unfold bG at HM;go_in;go_upto_region 1 with fail;rw[<-HW.o];have v0:=hV.cell 0;simp only[zr,zc]at v0;go_wp2_with fail;refine(HF.o).mono ?_;rintro e w1 ⟨rfl,hb⟩;replace hG:=hG.below hb;replace hV:=hV.below hb hV.lt;replace v0:=aA hb v0;have HO:=qd (DK gb t pre post go l es w1 hG);rw[ho]at HO;unfold bG at HO;go_wp2_with fail;refine(HO.o).mono ?_;rintro e w2 ⟨rfl,hb2⟩;replace hG:=hG.below hb2;replace hV:=hV.below hb2 hV.lt;replace v0:=aA hb2 v0;have s0:=hG.at_ i 0 hi (by omega);have s1:=hG.at_ i 1 hi (by omega);have s2:=hG.at_ i 2 hi (by omega);rw[ky]at s0;simp only[aU,zc,Q2]at s0 s1 s2;have g0:=hG.wB (go+1+i*3);have g1:=hG.wB (go+1+i*3+1);have g2:=hG.wB (go+1+i*3+2);go_upto_region 6 with fail;obtain⟨w3,hw3⟩:∃w3,w3=((w2.setCell ⟨gb,go+1+i*3,none⟩ (.int .u64 0)).setCell ⟨gb,go+1+i*3+1,none⟩ (.int .u64 0)).setCell ⟨gb,go+1+i*3+2,none⟩ (.int .u64 0):=⟨_,rfl⟩;rw[<-hw3];have hG3:dB w3 gb t pre post go l (es.set i ⟨0,0,0⟩):=hw3▸(hG.Kv i hi ⟨0,0,0⟩)
 have hV3:aj w3 w.heap.size 211 #[.pointer (some ⟨gb,go,none⟩)]:=by
  rw[hw3];exact((hV.far (p:=⟨gb,go+1+i*3,none⟩) (Ks hne) _).far (p:=⟨gb,go+1+i*3+1,none⟩) (Ks hne) _).far (p:=⟨gb,go+1+i*3+2,none⟩) (Ks hne) _
 have uK:Mod [gb] w w3:=by
  rw[hw3];exact((((((Mod.of_below HB.o [gb]).then (Mod.of_below hb [gb])).then (Mod.of_below hb2 [gb])).ak (.inl (by simp)) _ _).ak (.inl (by simp)) _ _).ak (.inl (by simp)) _ _)
 have HW3:=qd (And.intro hG3 uK);clear hw3 hG3 uK v0 s0 s1 s2 g0 g1 g2 hb hb2 hV hG;have v0:=hV3.cell 0;simp only[zr,zc]at v0;go_wp2_with fail;refine(HM.o _ HW3.o.1).mono ?_;rintro e w4 ⟨rfl,hG4,dO⟩;have HG4:=qd hG4;have FY:=qd (HW3.o.2.then dO);clear hG4 dO;go_wp2;refine bodyPost_ret (v:= .tuple #[.bool true,.nilIface]) (by simp[results,Tryz.results243,go_sem]) rfl ⟨rfl,HG4.o,FY.o⟩
