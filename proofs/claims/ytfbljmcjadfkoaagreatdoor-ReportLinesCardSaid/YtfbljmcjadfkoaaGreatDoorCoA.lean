/- Words of eight lanes, lane by lane. No program in sight. -/
import Derived.Laws.Bits64
import Derived.Laws.Bits64b
import Derived.Test.YtfbljmcjadfkoaaGreatDoorProg
import Derived.Test.YtfbljmcjadfkoaaGreatDoorSq
import Derived.Tactics
import Derived.Tactics2
import Derived.WalkKit
import Derived.WalkSpells
import Derived.WalkLawsBesides
import Derived.KernelRfl
import Derived.Outline
import Derived.IntWalk
import Derived.BigQuiet
import Derived.Deep.QuietTactic
namespace Go.Proofs.YtfbljmcjadfkoaaGreatDoor.AmC
set_option maxRecDepth 100000
set_option maxHeartbeats 400000
open Go Go.RowKit AmC
variable {a b : Nat} {l t : List Nat}
def w8:List Nat→Nat
 | []=>0
 |b::t=>b+256*w8 t
def Bytes (l:List Nat):Prop:=∀b∈l,b<256
theorem Bytes.head (h:Bytes (b::t)):b<256:=h b (by simp)
theorem Bytes.tail (h:Bytes (b::t)):Bytes t:=fun x hx=>h x (by simp[hx])
theorem w8_lt:∀(l:List Nat),Bytes l→w8 l<256^l.length
 | [],_=>by simp[w8]
 |b::t,h=>by
  have h1:=w8_lt t h.tail;have h2:=h.head;simp only[w8,List.length_cons,Nat.pow_succ];omega
theorem w8_lt64 (h:Bytes l)(hl:l.length=8):w8 l<18446744073709551616:=by
 have:=w8_lt l h;rw[hl]at this;exact this
theorem bit_cons (a x j:Nat)(ha:a<256):(a+256*x).testBit j=if j<8 then a.testBit j else x.testBit (j-8):=by
 have:=Nat.testBit_two_pow_mul_add x (b:=a) (i:=8) (by simpa using ha) j;rw[show 2^8*x+a=a+256*x by omega]at this;exact this
theorem and_cons (x y:Nat)(ha:a<256)(hb:b<256):(a+256*x) &&& (b+256*y)=(a &&& b)+256*(x &&& y):=by
 apply Nat.eq_of_testBit_eq;intro j;have h:a &&& b<256:=Nat.lt_of_le_of_lt Nat.and_le_left ha;rw[Nat.testBit_and,bit_cons _ _ _ ha,bit_cons _ _ _ hb,bit_cons _ _ _ h]
 split<;>rw[Nat.testBit_and]
theorem or_cons (x y:Nat)(ha:a<256)(hb:b<256):(a+256*x)|||(b+256*y)=(a|||b)+256*(x|||y):=by
 apply Nat.eq_of_testBit_eq;intro j
 have h:a|||b<256:=Nat.or_lt_two_pow (n:=8) ha hb
 rw[Nat.testBit_or,bit_cons _ _ _ ha,bit_cons _ _ _ hb,bit_cons _ _ _ h]
 split<;>rw[Nat.testBit_or]
theorem xor_cons (x y:Nat)(ha:a<256)(hb:b<256):(a+256*x)^^^(b+256*y)=(a^^^b)+256*(x^^^y):=by
 apply Nat.eq_of_testBit_eq;intro j;have h:a^^^b<256:=Nat.xor_lt_two_pow (n:=8) ha hb;rw[Nat.testBit_xor,bit_cons _ _ _ ha,bit_cons _ _ _ hb,bit_cons _ _ _ h]
 split<;>rw[Nat.testBit_xor]
theorem w8_and:∀(l m:List Nat),l.length=m.length→Bytes l→Bytes m→w8 l &&& w8 m=w8 (List.zipWith (· &&& ·) l m)
 | [],[],_,_,_=>by simp[w8]
 |a::l,b::m,h,hl,hm=>by
  simp only[w8,List.zipWith_cons_cons];rw[and_cons _ _ hl.head hm.head,w8_and l m (by simpa using h) hl.tail hm.tail]
theorem w8_or:∀(l m:List Nat),l.length=m.length→Bytes l→Bytes m→w8 l|||w8 m=w8 (List.zipWith (·|||·) l m)
 | [],[],_,_,_=>by simp[w8]
 |a::l,b::m,h,hl,hm=>by
  simp only[w8,List.zipWith_cons_cons];rw[or_cons _ _ hl.head hm.head,w8_or l m (by simpa using h) hl.tail hm.tail]
theorem w8_xor:∀(l m:List Nat),l.length=m.length→Bytes l→Bytes m→w8 l^^^w8 m=w8 (List.zipWith (·^^^·) l m)
 | [],[],_,_,_=>by simp[w8]
 |a::l,b::m,h,hl,hm=>by
  simp only[w8,List.zipWith_cons_cons];rw[xor_cons _ _ hl.head hm.head,w8_xor l m (by simpa using h) hl.tail hm.tail]
theorem w8_add:∀(l m:List Nat),l.length=m.length→w8 l+w8 m=w8 (List.zipWith (·+·) l m)
 | [],[],_=>by simp[w8]
 |a::l,b::m,h=>by
  simp only[w8,List.zipWith_cons_cons];rw[←w8_add l m (by simpa using h)];omega
theorem bytes_zip {f:Nat→Nat→Nat}(hf:∀a b,a<256→b<256→f a b<256):∀{l m:List Nat},Bytes l→Bytes m→Bytes (List.zipWith f l m)
 | [],_,_,_=>by simp[Bytes]
 |_::_,[],_,_=>by simp[Bytes]
 |a::l,b::m,hl,hm=>fun x hx=>by
  rw[List.zipWith_cons_cons,List.mem_cons]at hx;rcases hx with rfl|hx
  ·exact hf _ _ hl.head hm.head
  ·exact bytes_zip hf hl.tail hm.tail x hx
theorem bytes_map {f:Nat→Nat}(hf:∀a,a<256→f a<256)(hl:Bytes l):Bytes (l.map f):=fun x hx=>by
 obtain⟨a,ha,rfl⟩:=List.mem_map.1 hx;exact hf a (hl a ha)
theorem zip_rep (f:Nat→Nat→Nat)(b:Nat):∀(l:List Nat),List.zipWith f l (List.replicate l.length b)=l.map fun a=>f a b
 | []=>rfl
 |a::t=>by rw[List.length_cons,List.replicate_succ,List.zipWith_cons_cons,zip_rep f b t];rfl
theorem bytes_rep {n:Nat}(h:b<256):Bytes (List.replicate n b):=fun x hx=>by rw[List.mem_replicate]at hx;rw[hx.2];exact h
theorem w8_rep (b:Nat):w8 (List.replicate 8 b)=72340172838076673*b:=by simp[w8,List.replicate];omega
theorem w8_not:∀(l:List Nat),Bytes l→w8 (l.map fun a=>255-a)=256^l.length-1-w8 l
 | [],_=>by simp[w8]
 |a::t,h=>by
  have h1:=w8_lt t h.tail;have h2:=h.head;simp only[List.map_cons,w8,List.length_cons,w8_not t h.tail,Nat.pow_succ];omega
theorem highs_rep:(9259542123273814144:Nat)=w8 (List.replicate 8 128):=by simp[w8,List.replicate]
theorem lows_rep:(9187201950435737471:Nat)=w8 (List.replicate 8 127):=by simp[w8,List.replicate]
def topB (a:Nat):Nat:=if a<128 then 0 else 128
theorem top_and (a:Nat)(h:a<256):a &&& 128=topB a:=by
 have:∀a:Fin 256,a.val &&& 128=topB a.val:=by decide+kernel
 exact this ⟨a,h⟩
theorem w8_high (h:Bytes l)(hl:l.length=8):w8 l &&& 9259542123273814144=w8 (l.map topB):=by
 rw[highs_rep,←hl,w8_and l _ (by simp) h (bytes_rep (by omega)),zip_rep];congr 1;exact List.map_congr_left fun a ha=>top_and a (h a ha)
def eqB (b a:Nat):Nat:=if a=b then 128 else 0
theorem zero_lane (x:Nat)(h:x<256):(255-(((x &&& 127)+127)|||x)) &&& 128=if x=0 then 128 else 0:=by
 have:∀a:Fin 256,(255-(((a.val &&& 127)+127)|||a.val)) &&& 128=if a.val=0 then 128 else 0:=by decide+kernel
 exact this ⟨x,h⟩
theorem w8_equal (h:Bytes l)(hl:l.length=8)(b:Nat)(hb:b<256):
  (18446744073709551615-((((w8 l^^^w8 (List.replicate 8 b)) &&& 9187201950435737471)+9187201950435737471)|||(w8 l^^^w8 (List.replicate 8 b)))) &&& 9259542123273814144=w8 (l.map (eqB b)):=by
 have hx:w8 l^^^w8 (List.replicate 8 b)=w8 (l.map fun a=>a^^^b):=by rw[←hl,w8_xor l _ (by simp) h (bytes_rep hb),zip_rep]
 rw[hx]
 have hB:Bytes (l.map fun a=>a^^^b):=fun x hxm=>by
  obtain⟨a,ha,rfl⟩:=List.mem_map.1 hxm;exact Nat.xor_lt_two_pow (n:=8) (h a ha) hb
 have hlx:(l.map fun a=>a^^^b).length=8:=by simpa using hl
 obtain⟨m,hm⟩:∃m,m=l.map fun a=>a^^^b:=⟨_,rfl⟩;rw[←hm]at hB hlx⊢
 have e1:w8 m &&& 9187201950435737471=w8 (m.map fun a=>a &&& 127):=by rw[lows_rep,←hlx,w8_and m _ (by simp) hB (bytes_rep (by omega)),zip_rep]
 have hB1:Bytes (m.map fun a=>(a &&& 127)+127):=bytes_map (fun a _=>by have:=Nat.and_le_right (n:=a) (m:=127);omega) hB
 have e2:w8 (m.map fun a=>a &&& 127)+9187201950435737471=w8 (m.map fun a=>(a &&& 127)+127):=by
  rw[lows_rep,show List.replicate 8 127=List.replicate (m.map fun a=>a &&& 127).length 127 by simp[hlx],w8_add _ _ (by simp),zip_rep,List.map_map];rfl
 rw[e1,e2,w8_or _ m (by simp) hB1 hB]
 have e3:List.zipWith (·|||·) (m.map fun a=>(a &&& 127)+127) m=m.map fun a=>((a &&& 127)+127)|||a:=by
  clear hB hlx hm e1 hB1 e2 hx
  induction m with
  |nil=>rfl
  |cons a t ih=>simp[ih]
 rw[e3];have hB2:Bytes (m.map fun a=>((a &&& 127)+127)|||a):=bytes_map (fun a ha=>Nat.or_lt_two_pow (n:=8) (by have:=Nat.and_le_right (n:=a) (m:=127);omega) ha) hB;have e4:=w8_not _ hB2;rw[List.length_map,hlx,List.map_map]at e4;rw[show(18446744073709551615:Nat)=256^8-1 by decide,←e4]
 have hB3:Bytes (m.map ((fun a=>255-a)∘fun a=>((a &&& 127)+127)|||a)):=fun x hxm=>by
  obtain⟨a,ha,rfl⟩:=List.mem_map.1 hxm;show 255-_<256;omega
 rw[highs_rep,show List.replicate 8 128=List.replicate (m.map ((fun a=>255-a)∘fun a=>((a &&& 127)+127)|||a)).length 128 by simp[hlx],w8_and _ _ (by simp) hB3 (bytes_rep (by omega)),zip_rep,List.map_map,hm,List.map_map];congr 1;refine List.map_congr_left fun a ha=> ?_;show(255-((((a^^^b) &&& 127)+127)|||(a^^^b))) &&& 128=eqB b a;rw[zero_lane _ (Nat.xor_lt_two_pow (n:=8) (h a ha) hb)];unfold eqB;by_cases hab:a=b
 ·subst hab;simp
 ·rw[if_neg hab,if_neg];intro h0;refine hab (Nat.eq_of_testBit_eq fun j=> ?_)
  have h1:(a^^^b).testBit j=false:=by rw[h0];exact Nat.zero_testBit j
  rw[Nat.testBit_xor]at h1;revert h1
  cases a.testBit j<;>cases b.testBit j<;>simp
theorem w8_lane:∀(l:List Nat) (i:Nat),Bytes l→w8 l/256^i % 256=l.getD i 0
 | [],i,_=>by simp[w8]
 |a::t,0,h=>by have:=h.head;simp[w8];omega
 |a::t,i+1,h=>by
  have:=h.head;have ih:=w8_lane t i h.tail;rw[List.getD_cons_succ,←ih,w8,Nat.pow_succ,Nat.mul_comm (256^i) 256,←Nat.div_div_eq_div_mul,show(a+256*w8 t)/256=w8 t by omega]
def lanesFrom (i:Nat):List Nat→List Nat
 | []=> []
 |b::t=>if b=128 then i::lanesFrom (i+1) t else lanesFrom (i+1) t
end Go.Proofs.YtfbljmcjadfkoaaGreatDoor.AmC

/-! What the program reckons with words of lanes. No program in sight. -/
namespace Go.Proofs.YtfbljmcjadfkoaaGreatDoor.AmC
set_option maxRecDepth 100000
set_option maxHeartbeats 400000
open Go Go.RowKit AmC
variable {b i : Nat} {l : List Nat}
theorem bits_andNot_u64_nat (a b:Nat)(ha:a<18446744073709551616)(hb:b<18446744073709551616):
  bits .andNot .u64 (a:Int) (b:Int)=((a &&& (18446744073709551615-b):Nat):Int):=by
 have hx:a &&& (18446744073709551615-b)<2^64:=Nat.and_lt_two_pow _ (by omega)
 have h1:(BitVec.ofInt 64 (a:Int)).toNat=a:=by
  rw[BitVec.ofInt_natCast,BitVec.toNat_ofNat];exact Nat.mod_eq_of_lt (by omega)
 have h2:(BitVec.ofInt 64 (b:Int)).toNat=b:=by
  rw[BitVec.ofInt_natCast,BitVec.toNat_ofNat];exact Nat.mod_eq_of_lt (by omega)
 show IntKind.u64.wrap ((BitVec.ofInt 64 (a:Int) &&& ~~~ BitVec.ofInt 64 (b:Int)).toNat:Int)=_;rw[BitVec.toNat_and,BitVec.toNat_not,h1,h2,IntKind.wrap_u64]
 have:(2:Nat)^64-1-b=18446744073709551615-b:=by omega
 rw[this];omega
theorem xor_ones (a:Nat)(ha:a<18446744073709551616):18446744073709551615^^^a=18446744073709551615-a:=by
 have h1:(BitVec.ofNat 64 a).toNat=a:=by rw[BitVec.toNat_ofNat];exact Nat.mod_eq_of_lt (by omega)
 have h2:=congrArg BitVec.toNat (BitVec.not_def (x:=BitVec.ofNat 64 a));rw[BitVec.toNat_xor,BitVec.toNat_not,BitVec.toNat_allOnes,h1]at h2
 have:(2:Nat)^64-1=18446744073709551615:=by decide
 rw[this]at h2;exact h2.symm
theorem u64_max:IntKind.u64.max=((18446744073709551615:Nat):Int):=by decide
theorem not_u64_nat (a:Nat)(ha:a<18446744073709551616):bits .xor .u64 IntKind.u64.max (a:Int)=((18446744073709551615-a:Nat):Int):=by
 rw[u64_max,bits_xor_u64_nat _ _ (by decide) ha,xor_ones a ha]
theorem wrap_nat {n:Nat}(_h:n<18446744073709551616):IntKind.u64.wrap (n:Int)=(n:Int):=by rw[IntKind.wrap_u64];omega
def rep8 (b:Nat):Nat:=w8 (List.replicate 8 b)
theorem rep8_lt (h:b<256):rep8 b<18446744073709551616:=w8_lt64 (bytes_rep h) (by simp)
theorem repeat_val (_:b<256):(72340172838076673:Int)*(b:Int)=((rep8 b:Nat):Int):=by
 unfold rep8;rw[w8_rep];omega
theorem high_val (hb:Bytes l)(hl:l.length=8):bits .and .u64 ((w8 l:Nat):Int) 9259542123273814144=((w8 (l.map topB):Nat):Int):=by
 rw[←w8_high hb hl];exact bits_and_u64_nat _ _ (w8_lt64 hb hl) (by decide)
theorem equal_val (hb:Bytes l)(hl:l.length=8)(h8:b<256):
  bits .and .u64 (bits .xor .u64 IntKind.u64.max (bits .or .u64 (IntKind.u64.wrap (bits .andNot .u64 (bits .xor .u64 ((w8 l:Nat):Int) ((rep8 b:Nat):Int)) 9259542123273814144+9187201950435737471)) (bits .xor .u64 ((w8 l:Nat):Int) ((rep8 b:Nat):Int)))) 9259542123273814144=
   ((w8 (l.map (eqB b)):Nat):Int):=by
 have hl64:=w8_lt64 hb hl;have hr:=rep8_lt h8;rw[bits_xor_u64_nat _ _ hl64 hr]
 have hx:w8 l^^^rep8 b<18446744073709551616:=by
  have:=Nat.xor_lt_two_pow (n:=64) (x:=w8 l) (y:=rep8 b) (by omega) (by omega);omega
 obtain⟨x,hxe⟩:∃x,x=w8 l^^^rep8 b:=⟨_,rfl⟩;rw[←hxe]at hx⊢;have e1:bits .andNot .u64 (x:Int) 9259542123273814144=((x &&& 9187201950435737471:Nat):Int):=bits_andNot_u64_nat x 9259542123273814144 hx (by decide);rw[e1];have hand:x &&& 9187201950435737471≤9187201950435737471:=Nat.and_le_right
 have e2:((x &&& 9187201950435737471:Nat):Int)+9187201950435737471=(((x &&& 9187201950435737471)+9187201950435737471:Nat):Int):=by omega
 rw[e2,wrap_nat (by omega),bits_or_u64_nat _ _ (by omega) hx]
 have hor:((x &&& 9187201950435737471)+9187201950435737471)|||x<18446744073709551616:=by
  have:=Nat.or_lt_two_pow (n:=64) (x:=(x &&& 9187201950435737471)+9187201950435737471) (y:=x) (by omega) (by omega);omega
 rw[not_u64_nat _ hor];have e3:=bits_and_u64_nat (18446744073709551615-(((x &&& 9187201950435737471)+9187201950435737471)|||x)) 9259542123273814144 (by omega) (by decide);rw[←w8_equal hb hl b h8];unfold rep8 at hxe;rw[←hxe];exact e3
theorem lane_val (hb:Bytes l)(i:Nat):((w8 l:Nat):Int)/2^(8*i) % 256=((l.getD i 0:Nat):Int):=by
 rw[←w8_lane l i hb]
 have:(2:Nat)^(8*i)=256^i:=by rw[Nat.pow_mul]
 have e:((2:Int)^(8*i))=((256^i:Nat):Int):=by rw[←this];simp
 rw[e];omega
theorem byte_and {a:Nat}(h:a<256):a &&& 255=a:=by
 have:=Nat.and_two_pow_sub_one_eq_mod a 8;rw[show(255:Nat)=2^8-1 by decide,this];omega
theorem eight (hl:l.length=8):∃a0 a1 a2 a3 a4 a5 a6 a7,l=[a0,a1,a2,a3,a4,a5,a6,a7]:=by
 match l,hl with
 | [a0,a1,a2,a3,a4,a5,a6,a7],_=>exact⟨a0,a1,a2,a3,a4,a5,a6,a7,rfl⟩
theorem with_nat (hb:Bytes l)(hl:l.length=8)(hi:i<8)(h8:b<256):
  (w8 l &&& (18446744073709551615-255*256^i))|||(b*256^i)=w8 (l.set i b):=by
 have hz:∀x,x*256^i=w8 ((List.replicate 8 0).set i x):=by
  intro x
  have:i=0∨i=1∨i=2∨i=3∨i=4∨i=5∨i=6∨i=7:=by omega
  rcases this with rfl|rfl|rfl|rfl|rfl|rfl|rfl|rfl<;>simp[w8,List.replicate]<;>omega
 have hB0:∀x,x<256→Bytes ((List.replicate 8 0).set i x):=fun x hx y hy=>by
  rcases List.mem_or_eq_of_mem_set hy with hy|rfl
  ·rw[(List.mem_replicate.1 hy).2];omega
  ·exact hx
 have hn:18446744073709551615-255*256^i=w8 (((List.replicate 8 0).set i 255).map fun a=>255-a):=by
  rw[w8_not _ (hB0 255 (by omega)),hz 255];simp
 have hBn:Bytes (((List.replicate 8 0).set i 255).map fun a=>255-a):=fun y hy=>by
  obtain⟨a,_,rfl⟩:=List.mem_map.1 hy;omega
 rw[hn,hz b,w8_and l _ (by simp[hl]) hb hBn];have hBa:Bytes (List.zipWith (· &&& ·) l (((List.replicate 8 0).set i 255).map fun a=>255-a)):=bytes_zip (fun a b ha _=>Nat.lt_of_le_of_lt Nat.and_le_left ha) hb hBn;rw[w8_or _ _ (by simp[hl]) hBa (hB0 b h8)];congr 1;obtain⟨a0,a1,a2,a3,a4,a5,a6,a7,rfl⟩:=eight hl;have b0:=byte_and (hb a0 (by simp));have b1:=byte_and (hb a1 (by simp));have b2:=byte_and (hb a2 (by simp));have b3:=byte_and (hb a3 (by simp));have b4:=byte_and (hb a4 (by simp));have b5:=byte_and (hb a5 (by simp));have b6:=byte_and (hb a6 (by simp));have b7:=byte_and (hb a7 (by simp))
 have:i=0∨i=1∨i=2∨i=3∨i=4∨i=5∨i=6∨i=7:=by omega
 rcases this with rfl|rfl|rfl|rfl|rfl|rfl|rfl|rfl<;>simp[List.replicate,b0,b1,b2,b3,b4,b5,b6,b7]
theorem with_val (hb:Bytes l)(hl:l.length=8)(hi:i<8)(h8:b<256):
  bits .or .u64 (bits .andNot .u64 ((w8 l:Nat):Int) (IntKind.u64.wrap (255*2^(8*i)))) (IntKind.u64.wrap ((b:Int)*2^(8*i)))=((w8 (l.set i b):Nat):Int):=by
 have e:((2:Int)^(8*i))=((256^i:Nat):Int):=by
  have:(2:Nat)^(8*i)=256^i:=by rw[Nat.pow_mul]
  rw[←this];simp
 have hp:256^i≤256^7:=Nat.pow_le_pow_right (by omega) (by omega)
 have h7:(256:Nat)^7=72057594037927936:=by decide
 rw[h7]at hp;have hbp:b*256^i≤255*256^i:=Nat.mul_le_mul_right _ (by omega)
 have e1:(255:Int)*2^(8*i)=((255*256^i:Nat):Int):=by rw[e];simp
 have e2:(b:Int)*2^(8*i)=((b*256^i:Nat):Int):=by rw[e];simp
 rw[e1,e2,wrap_nat (by omega),wrap_nat (by omega),bits_andNot_u64_nat _ _ (w8_lt64 hb hl) (by omega)];have hand:w8 l &&& (18446744073709551615-255*256^i)<18446744073709551616:=Nat.lt_of_le_of_lt Nat.and_le_left (w8_lt64 hb hl);rw[bits_or_u64_nat _ _ hand (by omega),with_nat hb hl hi h8]
theorem w8_zero:∀(l:List Nat),w8 l=0↔∀b∈l,b=0
 | []=>by simp[w8]
 |a::t=>by
  have:=w8_zero t;simp only[w8,List.mem_cons,forall_eq_or_imp];rw[←this];omega
def Marks (l:List Nat):Prop:=∀b∈l,b=0∨b=128
theorem Marks.bytes (h:Marks l):Bytes l:=fun b hb=>by rcases h b hb with rfl|rfl<;>omega
theorem marks_top (l:List Nat):Marks (l.map topB):=fun b hb=>by
 obtain⟨a,_,rfl⟩:=List.mem_map.1 hb
 unfold topB;split<;>simp
theorem marks_eq (b:Nat)(l:List Nat):Marks (l.map (eqB b)):=fun x hx=>by
 obtain⟨a,_,rfl⟩:=List.mem_map.1 hx
 unfold eqB;split<;>simp
theorem top_marks (h:Marks l):l.map topB=l:=by
 conv=>rhs;rw[←List.map_id l]
 exact List.map_congr_left fun b hb=>by rcases h b hb with rfl|rfl<;>rfl
def firstM (l:List Nat):Option Nat:=l.findIdx? (·==128)
def dropM:List Nat→List Nat
 | []=> []
 |b::t=>if b=128 then 0::t else b::dropM t
theorem dropM_length:∀l,(dropM l).length=l.length
 | []=>rfl
 |b::t=>by unfold dropM;split<;>simp[dropM_length t]
theorem marks_drop:∀{l:List Nat},Marks l→Marks (dropM l)
 | [],h=>h
 |b::t,h=>by
  have ht:Marks t:=fun x hx=>h x (by simp[hx]);unfold dropM;split
  ·intro x hx;rcases List.mem_cons.1 hx with rfl|hx
   ·exact .inl rfl
   ·exact ht x hx
  ·intro x hx;rcases List.mem_cons.1 hx with rfl|hx
   ·exact h x (by simp)
   ·exact marks_drop ht x hx
theorem drop_nat:∀{l:List Nat},Marks l→w8 l≠0→w8 l &&& (w8 l-1)=w8 (dropM l)
 | [],_,h=>absurd rfl h
 |b::t,h,h0=>by
  have ht:Marks t:=fun x hx=>h x (by simp[hx]);unfold dropM;rcases h b (by simp)with rfl|rfl
  ·rw[if_neg (by omega)];simp only[w8]at h0⊢
   have hpos:w8 t≠0:=by omega
   have e:0+256*w8 t-1=255+256*(w8 t-1):=by omega
   rw[e,and_cons _ _ (by omega) (by omega),drop_nat ht hpos];rfl
  ·rw[if_pos rfl];simp only[w8]at h0⊢
   have e:128+256*w8 t-1=127+256*w8 t:=by omega
   rw[e,and_cons _ _ (by omega) (by omega),Nat.and_self];rfl
theorem drop_val (h:Marks l)(hl:l.length=8)(h0:w8 l≠0):bits .and .u64 ((w8 l:Nat):Int) (IntKind.u64.wrap (((w8 l:Nat):Int)-1))=((w8 (dropM l):Nat):Int):=by
 have h64:=w8_lt64 h.bytes hl
 have e:((w8 l:Nat):Int)-1=((w8 l-1:Nat):Int):=by omega
 rw[e,wrap_nat (by omega),bits_and_u64_nat _ _ h64 (by omega),drop_nat h h0]
theorem first_lt (h:firstM l=some i):i<l.length:=(List.findIdx?_eq_some_iff_getElem.1 h).1
theorem first_none (h:Marks l):w8 l=0↔firstM l=none:=by
 rw[w8_zero];unfold firstM;rw[List.findIdx?_eq_none_iff];constructor
 ·intro h1 x hx;rw[h1 x hx];rfl
 ·intro h1 x hx;rcases h x hx with h2|h2
  ·exact h2
  ·have:=h1 x hx;rw[h2]at this;simp at this
end Go.Proofs.YtfbljmcjadfkoaaGreatDoor.AmC

/-! The least marked lane, by the table of bits. No program in sight. -/
namespace Go.Proofs.YtfbljmcjadfkoaaGreatDoor.AmC
set_option maxRecDepth 100000
set_option maxHeartbeats 400000
open Go Go.RowKit AmC
variable {l : List Nat} {i : Nat}
theorem and_not_self:∀(l:List Nat),Bytes l→w8 l &&& (256^l.length-1-w8 l)=0
 |l,h=>by
  rw[←w8_not l h]
  have hB:Bytes (l.map fun a=>255-a):=fun y hy=>by
   obtain⟨a,_,rfl⟩:=List.mem_map.1 hy;omega
  rw[w8_and l _ (by simp) h hB,w8_zero]
  have H:∀a:Fin 256,a.val &&& (255-a.val)=0:=by decide+kernel
  have:∀(l:List Nat),Bytes l→∀b∈List.zipWith (· &&& ·) l (l.map fun a=>255-a),b=0:=by
   intro l
   induction l with
   |nil=>intro _ b hb;simp at hb
   |cons a t ih=>
    intro hl b hb;rw[List.map_cons,List.zipWith_cons_cons]at hb;rcases List.mem_cons.1 hb with rfl|hb
    ·exact H ⟨a,hl.head⟩
    ·exact ih hl.tail b hb
  exact this l h
theorem low_nat:∀{l:List Nat} {i:Nat},Marks l→firstM l=some i→w8 l &&& (256^l.length-w8 l)=128*256^i
 | [],_,_,h=>by simp[firstM]at h
 |b::t,i,hm,h=>by
  have ht:Marks t:=fun x hx=>hm x (by simp[hx]);have h1:=w8_lt t ht.bytes;unfold firstM at h;rw[List.findIdx?_cons]at h;rcases hm b (by simp)with rfl|rfl
  ·simp only[show((0:Nat)==128)=false from rfl,Bool.false_eq_true,if_false]at h;obtain⟨k,hk,rfl⟩:=Option.map_eq_some_iff.1 h;have ih:=low_nat ht hk;simp only[w8,List.length_cons,Nat.pow_succ]
   have e:256^t.length*256-(0+256*w8 t)=0+256*(256^t.length-w8 t):=by omega
   rw[e,and_cons _ _ (by omega) (by omega),ih];simp;omega
  ·simp only[show((128:Nat)==128)=true from rfl,if_true]at h
   injection h with h
   subst h;simp only[w8,List.length_cons,Nat.pow_succ]
   have e:256^t.length*256-(128+256*w8 t)=128+256*(256^t.length-1-w8 t):=by omega
   rw[e,and_cons _ _ (by omega) (by omega),and_not_self t ht.bytes];rfl
def tzIdx (i:Nat):Nat:=128*256^i*285870213051353865 % 18446744073709551616/288230376151711744
theorem low_val (hm:Marks l)(hl:l.length=8)(h:firstM l=some i):
  (IntKind.u64.wrap (bits .and .u64 ((w8 l:Nat):Int) (IntKind.u64.wrap (-((w8 l:Nat):Int)))*285870213051353865)/288230376151711744).toNat=tzIdx i:=by
 have h64:=w8_lt64 hm.bytes hl
 have h0:w8 l≠0:=fun h0=>by rw[(first_none hm).1 h0]at h;cases h
 have hn:IntKind.u64.wrap (-((w8 l:Nat):Int))=((18446744073709551616-w8 l:Nat):Int):=by rw[IntKind.wrap_u64];omega
 have e:=low_nat hm h;rw[hl,show(256:Nat)^8=18446744073709551616 by decide]at e;rw[hn,bits_and_u64_nat _ _ h64 (by omega),e,IntKind.wrap_u64];unfold tzIdx
 have e2:((128*256^i:Nat):Int)*285870213051353865 % 18446744073709551616/288230376151711744=((128*256^i*285870213051353865 % 18446744073709551616/288230376151711744:Nat):Int):=by
  simp
 rw[e2,Int.toNat_natCast]
theorem tzIdx_lt (i:Nat):tzIdx i<64:=by unfold tzIdx;omega
theorem low_int (hm:Marks l)(hl:l.length=8)(h:firstM l=some i):
  IntKind.u64.wrap (bits .and .u64 ((w8 l:Nat):Int) (IntKind.u64.wrap (-((w8 l:Nat):Int)))*285870213051353865)/288230376151711744=((tzIdx i:Nat):Int):=by
 rw[←low_val hm hl h]
 have:0≤IntKind.u64.wrap (bits .and .u64 ((w8 l:Nat):Int) (IntKind.u64.wrap (-((w8 l:Nat):Int)))*285870213051353865)/288230376151711744:=by rw[IntKind.wrap_u64];omega
 omega
theorem lanes_some:∀{l:List Nat} {i:Nat} (s:Nat),firstM l=some i→lanesFrom s l=(s+i)::lanesFrom s (dropM l)
 | [],_,_,h=>by simp[firstM]at h
 |b::t,i,s,h=>by
  unfold firstM at h;rw[List.findIdx?_cons]at h;by_cases hb:b=128
  ·subst hb;simp only[show((128:Nat)==128)=true from rfl,if_true]at h
   injection h with h
   subst h;simp[lanesFrom,dropM]
  ·rw[if_neg (by simpa using hb)]at h;obtain⟨k,hk,rfl⟩:=Option.map_eq_some_iff.1 h;have ih:=lanes_some (s+1) hk;simp only[lanesFrom,dropM,if_neg hb];rw[ih,show s+1+k=s+(k+1) by omega]
theorem lanes_none:∀{l:List Nat} (s:Nat),firstM l=none→lanesFrom s l=[]
 | [],_,_=>rfl
 |b::t,s,h=>by
  unfold firstM at h;rw[List.findIdx?_cons]at h;by_cases hb:b=128
  ·rw[if_pos (by simpa using hb)]at h;cases h
  ·rw[if_neg (by simpa using hb)]at h;have hk:firstM t=none:=Option.map_eq_none_iff.1 h;simp only[lanesFrom,if_neg hb];exact lanes_none (s+1) hk
theorem lanes_length:∀(l:List Nat) (s:Nat),(lanesFrom s l).length≤l.length
 | [],_=>Nat.le_refl _
 |b::t,s=>by
  have:=lanes_length t (s+1);unfold lanesFrom
  split<;>simp<;>omega
theorem drop_lt:∀{l:List Nat},Marks l→w8 l≠0→w8 (dropM l)<w8 l
 | [],_,h=>absurd rfl h
 |b::t,h,h0=>by
  have ht:Marks t:=fun x hx=>h x (by simp[hx]);rcases h b (by simp)with rfl|rfl
  ·simp only[w8,dropM,show((0:Nat)=128)=False by simp,if_false]at h0⊢;have:=drop_lt ht (by omega);omega
  ·simp[w8,dropM]
theorem first_of_ne (h:Marks l)(h0:w8 l≠0):∃i,firstM l=some i:=by
 cases hf:firstM l with
 |some i=>exact⟨i,rfl⟩
 |none=>exact absurd ((first_none h).2 hf) h0
end Go.Proofs.YtfbljmcjadfkoaaGreatDoor.AmC

/-! Words of eight lanes, and control words, by their contracts. -/
namespace Go.Proofs.YtfbljmcjadfkoaaGreatDoor
set_option maxRecDepth 100000
set_option maxHeartbeats 400000
open Go Go.RowKit AmC
theorem ret_u64 {a b:Int}(h:a=b):Ending.returned (.int .u64 a)= .returned (.int .u64 b):=by rw[h]
theorem swar_Repeat (b:Nat)(hb:b<256)(w:World):Calls Tryz.prog 273 #[.int .u8 (b:Int)] w fun e w'=>e= .returned (.int .u64 ((rep8 b:Nat):Int))∧w=w':=by
 have HW:=qd (repeat_val hb);go_in;go_wp2;go_ret;exact⟨ret_u64 HW.out,rfl⟩
theorem swar_is (i:Nat)(w:World):Calls Tryz.prog 296 #[.int .i64 (i:Int)] w fun e w'=>e= .returned (.bool (decide (i<8)))∧w=w':=by
 by_cases h:i<8
 ·have h':(i:Int)<8:=by omega
  have HD:=qd (decide_eq_true h);go_in;go_wp2;go_ret;exact⟨ret_bool (by first|exact HD.out.symm|rfl|simp[HD.out]),rfl⟩
 ·have h':¬(i:Int)<8:=by omega
  have HD:=qd (show decide (i<8)=false from decide_eq_false h);go_in;go_wp2;go_ret;exact⟨ret_bool (by first|exact HD.out.symm|rfl|simp[HD.out]),rfl⟩
theorem swar_is_yes (i:Nat)(hi:i<8)(w:World):Calls Tryz.prog 296 #[.int .i64 (i:Int)] w fun e w'=>e= .returned (.bool true)∧w=w':=by
 have:=swar_is i w;rw[decide_eq_true hi]at this;exact this
theorem swar_High (l:List Nat)(hl:l.length=8)(hb:Bytes l)(w:World):Calls Tryz.prog 275 #[.int .u64 ((w8 l:Nat):Int)] w fun e w'=>e= .returned (.int .u64 ((w8 (l.map topB):Nat):Int))∧w=w':=by
 have HV:=qd (high_val hb hl);clear hl hb;go_in;go_wp2;go_ret;exact⟨ret_u64 HV.out,rfl⟩
theorem swar_Equal (l:List Nat)(hl:l.length=8)(hb:Bytes l)(b:Nat)(hb8:b<256)(w:World):Calls Tryz.prog 277 #[.int .u64 ((w8 l:Nat):Int),.int .u8 (b:Int)] w fun e w'=>e= .returned (.int .u64 ((w8 (l.map (eqB b)):Nat):Int))∧w=w':=by
 have HR:=qd (fun W=>swar_Repeat b hb8 W);have HV:=qd (equal_val hb hl hb8);clear hl hb;go_in;go_wp2_with fail;refine(HR.out _).mono ?_;rintro e w1 ⟨rfl,rfl⟩;go_wp2;go_ret;exact⟨ret_u64 HV.out,rfl⟩
theorem swar_Lane (l:List Nat)(hb:Bytes l)(i:Nat)(hi:i<8)(w:World):Calls Tryz.prog 278 #[.int .u64 ((w8 l:Nat):Int),.int .i64 (i:Int)] w fun e w'=>e= .returned (.tuple #[.int .u8 ((l.getD i 0:Nat):Int),.bool true])∧w=w':=by
 have HR:=qd (fun W=>swar_is_yes i hi W);have HV:=qd (lane_val hb i);clear hb;go_in;go_wp2_with fail;refine(HR.out _).mono ?_;rintro e w1 ⟨rfl,rfl⟩;go_wp2;rw[HV.out];go_ret2;exact⟨rfl,rfl⟩
theorem swar_With (l:List Nat)(hl:l.length=8)(hb:Bytes l)(i b:Nat)(hi:i<8)(hb8:b<256)(w:World):Calls Tryz.prog 298 #[.int .u64 ((w8 l:Nat):Int),.int .i64 (i:Int),.int .u8 (b:Int)] w fun e w'=>e= .returned (.int .u64 ((w8 (l.set i b):Nat):Int))∧∃n,w'=w.drewN n:=by
 have HR:=qd (fun W=>swar_is_yes i hi W);have HV:=qd (with_val hb hl hi hb8);clear hl hb;go_in;go_wp2_with fail;refine(HR.out _).mono ?_;rintro e w1 ⟨rfl,rfl⟩;go_wp2;go_quiet (fail);go_wp2;go_ret;exact⟨ret_u64 HV.out,⟨_,rfl⟩⟩
def TzIn (w:World):Prop:=∀i,i<8→w.cell? ⟨19,tzIdx i,none⟩=some (.int .u8 ((8*i+7:Nat):Int))
theorem bits_tz (l:List Nat)(hl:l.length=8)(hm:Marks l)(i:Nat)(hi:firstM l=some i)(w:World)(hT:TzIn w):
  Calls Tryz.prog 192 #[.int .u64 ((w8 l:Nat):Int)] w fun e w'=>e= .returned (.int .i64 ((8*i+7:Nat):Int))∧w=w':=by
 have h8:i<8:=by have:=first_lt hi;omega
 have hT1:=hT i h8
 have h0:(((w8 l:Nat):Int)==0)=false:=by
  rw[beq_eq_false_iff_ne];intro h0;rw[(first_none hm).1 (by omega)]at hi;cases hi
 have hT':w.cell? ⟨19,(IntKind.u64.wrap (bits .and .u64 ((w8 l:Nat):Int) (IntKind.u64.wrap (-((w8 l:Nat):Int)))*285870213051353865)/288230376151711744).toNat,none⟩=some (.int .u8 ((8*i+7:Nat):Int)):=by
  rw[low_val hm hl hi];exact hT1
 have hlt:IntKind.u64.wrap (bits .and .u64 ((w8 l:Nat):Int) (IntKind.u64.wrap (-((w8 l:Nat):Int)))*285870213051353865)/288230376151711744<64:=by
  rw[low_int hm hl hi];have:=tzIdx_lt i;omega
 have hge:0≤IntKind.u64.wrap (bits .and .u64 ((w8 l:Nat):Int) (IntKind.u64.wrap (-((w8 l:Nat):Int)))*285870213051353865)/288230376151711744:=by
  rw[low_int hm hl hi];omega
 clear hT1 hT hm hi hl;go_in;go_wp2;go_ret;exact⟨ret_int (by omega),rfl⟩
theorem swar_First_some (l:List Nat)(hl:l.length=8)(hb:Bytes l)(i:Nat)(hi:firstM (l.map topB)=some i)(w:World)(hT:TzIn w):
  Calls Tryz.prog 245 #[.int .u64 ((w8 l:Nat):Int)] w fun e w'=>e= .returned (.int .i64 (i:Int))∧w=w':=by
 have hm:=marks_top l
 have hlm:(l.map topB).length=8:=by simpa using hl
 have h0:(((w8 (l.map topB):Nat):Int)==0)=false:=by
  rw[beq_eq_false_iff_ne];intro h0;rw[(first_none hm).1 (by omega)]at hi;cases hi
 have HT:=qd (bits_tz (l.map topB) hlm hm i hi w hT);have HH:=qd (swar_High l hl hb w)
 have hp:(0:Int)≤8*(i:Int)+7:=by omega
 have hp2:8*(i:Int)+7≤1000000:=by have:=first_lt hi;omega
 clear hl hb hi hm hlm hT;go_in;go_wp2_with fail;refine HH.out.mono ?_;rintro e w1 ⟨rfl,rfl⟩;go_wp2_with fail;refine HT.out.mono ?_;rintro e w1 ⟨rfl,rfl⟩;go_wp2;go_ret;exact⟨ret_int (by omega),rfl⟩
theorem swar_First_none (l:List Nat)(hl:l.length=8)(hb:Bytes l)(hi:firstM (l.map topB)=none)(w:World):
  Calls Tryz.prog 245 #[.int .u64 ((w8 l:Nat):Int)] w fun e w'=>e= .returned (.int .i64 (-1))∧w=w':=by
 have h0:(((w8 (l.map topB):Nat):Int)==0)=true:=by
  rw[beq_iff_eq,(first_none (marks_top l)).2 hi];rfl
 have HH:=qd (swar_High l hl hb w);clear hl hb hi;go_in;go_wp2_with fail;refine HH.out.mono ?_;rintro e w1 ⟨rfl,rfl⟩;go_wp2;go_ret;exact⟨rfl,rfl⟩
def optI:Option Nat→Int
 |some i=>(i:Int)
 |none=> -1
theorem swar_First (l:List Nat)(hl:l.length=8)(hb:Bytes l)(w:World)(hT:TzIn w):
  Calls Tryz.prog 245 #[.int .u64 ((w8 l:Nat):Int)] w fun e w'=>e= .returned (.int .i64 (optI (firstM (l.map topB))))∧w=w':=by
 cases h:firstM (l.map topB)with
 |some i=>exact swar_First_some l hl hb i h w hT
 |none=>exact swar_First_none l hl hb h w
theorem ctrl_New (w:World):Calls Tryz.prog 240 #[] w fun e w'=>e= .returned (.int .u64 ((rep8 128:Nat):Int))∧w=w':=by
 have HR:=qd (swar_Repeat 128 (by omega) w);go_in;go_wp2_with fail;refine HR.out.mono ?_;rintro e w1 ⟨rfl,rfl⟩;go_wp2;go_ret;exact⟨rfl,rfl⟩
theorem ctrl_control (b:Nat)(hb:b<256)(h:b≤128∨b=254)(w:World):Calls Tryz.prog 297 #[.int .u8 (b:Int)] w fun e w'=>e= .returned (.bool true)∧w=w':=by
 rcases h with h|rfl
 ·have h':(b:Int)≤128:=by omega
  go_in;go_wp2;go_ret;exact⟨rfl,rfl⟩
 ·go_in;go_wp2;go_ret;exact⟨rfl,rfl⟩
theorem ctrl_Get (l:List Nat)(hb:Bytes l)(i:Nat)(hi:i<8)(w:World):Calls Tryz.prog 252 #[.int .u64 ((w8 l:Nat):Int),.int .i64 (i:Int)] w fun e w'=>e= .returned (.int .u8 ((l.getD i 0:Nat):Int))∧w=w':=by
 have HR:=qd (swar_Lane l hb i hi w);clear hb hi;go_in;go_wp2_with fail;refine HR.out.mono ?_;rintro e w1 ⟨rfl,rfl⟩;go_wp2;go_ret;exact⟨rfl,rfl⟩
theorem ctrl_Set (l:List Nat)(hl:l.length=8)(hb:Bytes l)(i b:Nat)(hi:i<8)(hb8:b<256)(h:b≤128∨b=254)(w:World):Calls Tryz.prog 279 #[.int .u64 ((w8 l:Nat):Int),.int .i64 (i:Int),.int .u8 (b:Int)] w fun e w'=>e= .returned (.tuple #[.int .u64 ((w8 (l.set i b):Nat):Int),.nilIface])∧∃n,w'=w.drewN n:=by
 have HR:=qd (swar_With l hl hb i b hi hb8 w);have HC:=qd (ctrl_control b hb8 h w)
 have hi':(i:Int)<8:=by omega
 clear hb hi hl hb8 h;go_in;go_wp2_with fail;refine HC.out.mono ?_;rintro e w1 ⟨rfl,rfl⟩;go_wp2_with fail;refine HR.out.mono ?_;rintro e w1 ⟨rfl,n,rfl⟩;go_wp2;go_ret2;exact⟨rfl,n,rfl⟩
theorem ctrl_Match (l:List Nat)(hl:l.length=8)(hb:Bytes l)(b:Nat)(hb8:b<128)(w:World):Calls Tryz.prog 248 #[.int .u64 ((w8 l:Nat):Int),.int .u8 (b:Int)] w fun e w'=>e= .returned (.int .u64 ((w8 (l.map (eqB b)):Nat):Int))∧w=w':=by
 have HR:=qd (swar_Equal l hl hb b (by omega) w)
 have hb':(b:Int)<128:=by omega
 clear hb hl hb8;go_in;go_wp2_with fail;refine HR.out.mono ?_;rintro e w1 ⟨rfl,rfl⟩;go_wp2;go_ret;exact⟨rfl,rfl⟩
theorem ctrl_Empties (l:List Nat)(hl:l.length=8)(hb:Bytes l)(w:World):Calls Tryz.prog 250 #[.int .u64 ((w8 l:Nat):Int)] w fun e w'=>e= .returned (.int .u64 ((w8 (l.map (eqB 128)):Nat):Int))∧w=w':=by
 have HR:=qd (show Calls Tryz.prog 277 #[.int .u64 ((w8 l:Nat):Int),.int .u8 128] w fun e w'=>e= .returned (.int .u64 ((w8 (l.map (eqB 128)):Nat):Int))∧w=w' from swar_Equal l hl hb 128 (by omega) w);clear hb hl;go_in;go_wp2_with fail;refine HR.out.mono ?_;rintro e w1 ⟨rfl,rfl⟩;go_wp2;go_ret;exact⟨rfl,rfl⟩
theorem ctrl_Frees (l:List Nat)(hl:l.length=8)(hb:Bytes l)(w:World):Calls Tryz.prog 246 #[.int .u64 ((w8 l:Nat):Int)] w fun e w'=>e= .returned (.int .u64 ((w8 (l.map topB):Nat):Int))∧w=w':=by
 have HR:=qd (swar_High l hl hb w);clear hb hl;go_in;go_wp2_with fail;refine HR.out.mono ?_;rintro e w1 ⟨rfl,rfl⟩;go_wp2;go_ret;exact⟨rfl,rfl⟩
def notL (l:List Nat):List Nat:=l.map fun a=>255-a
def fullL (l:List Nat):List Nat:=(notL l).map topB
theorem full_lanes {l:List Nat}(hb:Bytes l)(hl:l.length=8):bits .xor .u64 IntKind.u64.max ((w8 l:Nat):Int)=((w8 (notL l):Nat):Int):=by
 unfold notL;rw[not_u64_nat _ (w8_lt64 hb hl),w8_not l hb,hl]
theorem ctrl_Fulls (l:List Nat)(hl:l.length=8)(hb:Bytes l)(w:World):Calls Tryz.prog 304 #[.int .u64 ((w8 l:Nat):Int)] w fun e w'=>e= .returned (.int .u64 ((w8 (fullL l):Nat):Int))∧w=w':=by
 have HR:=qd (show Calls Tryz.prog 275 #[.int .u64 ((w8 (notL l):Nat):Int)] w fun e w'=>e= .returned (.int .u64 ((w8 (fullL l):Nat):Int))∧w=w' from swar_High (notL l) (by simpa[notL]using hl) (bytes_map (fun a _=>by omega) hb) w);have HV:=qd (full_lanes hb hl);clear hb hl;go_in;go_wp2_with fail;rw[HV.out];refine HR.out.mono ?_;rintro e w1 ⟨rfl,rfl⟩;go_wp2;go_ret;exact⟨rfl,rfl⟩
end Go.Proofs.YtfbljmcjadfkoaaGreatDoor
