/- Words of eight lanes, lane by lane. No program in sight. -/
import Derived.Laws.Bits64
import Derived.Laws.Bits64b
import Derived.Test.YtbfpfgfgfjhpfaaGreatDoorProg
import Derived.Test.YtbfpfgfgfjhpfaaGreatDoorSq
import Derived.Tactics
import Derived.Tactics2
import Derived.WalkKit
import Derived.WalkSpells
import Derived.WalkLawsBesides
import Derived.KernelRfl
import Derived.Outline
import Derived.IntWalk
import Derived.BigQuiet
import Derived.Deep.QuietTactic
namespace Go.Proofs.YtbfpfgfgfjhpfaaGreatDoor.dP
set_option maxRecDepth 100000
set_option maxHeartbeats 400000
open Go Go.RowKit dP
variable {a b : Nat} {l t : List Nat}
def w8:List Nat→Nat
 | []=>0
 |b::t=>b+256*w8 t
def Bytes (l:List Nat):Prop:=∀b∈l,b<256
theorem Bytes.head (h:Bytes (b::t)):b<256:=h b (by simp)
theorem Bytes.tail (h:Bytes (b::t)):Bytes t:=fun x hx=>h x (by simp[hx])
theorem MX:∀(l:List Nat),Bytes l→w8 l<256^l.length
 | [],_=>by simp[w8]
 |b::t,h=>by
  have h1:=MX t h.tail;have h2:=h.head;simp only[w8,List.length_cons,Nat.pow_succ];omega
theorem rF (h:Bytes l)(hl:l.length=8):w8 l<18446744073709551616:=by
 have:=MX l h;rw[hl]at this;exact this
theorem nN (a x j:Nat)(ha:a<256):(a+256*x).testBit j=if j<8 then a.testBit j else x.testBit (j-8):=by
 have:=Nat.testBit_two_pow_mul_add x (b:=a) (i:=8) (by simpa using ha) j;rw[show 2^8*x+a=a+256*x by omega]at this;exact this
theorem and_cons (x y:Nat)(ha:a<256)(hb:b<256):(a+256*x) &&& (b+256*y)=(a &&& b)+256*(x &&& y):=by
 apply Nat.eq_of_testBit_eq;intro j;have h:a &&& b<256:=Nat.lt_of_le_of_lt Nat.and_le_left ha;rw[Nat.testBit_and,nN _ _ _ ha,nN _ _ _ hb,nN _ _ _ h]
 split<;>rw[Nat.testBit_and]
theorem or_cons (x y:Nat)(ha:a<256)(hb:b<256):(a+256*x)|||(b+256*y)=(a|||b)+256*(x|||y):=by
 apply Nat.eq_of_testBit_eq;intro j
 have h:a|||b<256:=Nat.or_lt_two_pow (n:=8) ha hb
 rw[Nat.testBit_or,nN _ _ _ ha,nN _ _ _ hb,nN _ _ _ h]
 split<;>rw[Nat.testBit_or]
theorem X0 (x y:Nat)(ha:a<256)(hb:b<256):(a+256*x)^^^(b+256*y)=(a^^^b)+256*(x^^^y):=by
 apply Nat.eq_of_testBit_eq;intro j;have h:a^^^b<256:=Nat.xor_lt_two_pow (n:=8) ha hb;rw[Nat.testBit_xor,nN _ _ _ ha,nN _ _ _ hb,nN _ _ _ h]
 split<;>rw[Nat.testBit_xor]
theorem zZ:∀(l m:List Nat),l.length=m.length→Bytes l→Bytes m→w8 l &&& w8 m=w8 (List.zipWith (· &&& ·) l m)
 | [],[],_,_,_=>by simp[w8]
 |a::l,b::m,h,hl,hm=>by
  simp only[w8,List.zipWith_cons_cons];rw[and_cons _ _ hl.head hm.head,zZ l m (by simpa using h) hl.tail hm.tail]
theorem SB:∀(l m:List Nat),l.length=m.length→Bytes l→Bytes m→w8 l|||w8 m=w8 (List.zipWith (·|||·) l m)
 | [],[],_,_,_=>by simp[w8]
 |a::l,b::m,h,hl,hm=>by
  simp only[w8,List.zipWith_cons_cons];rw[or_cons _ _ hl.head hm.head,SB l m (by simpa using h) hl.tail hm.tail]
theorem UZ:∀(l m:List Nat),l.length=m.length→Bytes l→Bytes m→w8 l^^^w8 m=w8 (List.zipWith (·^^^·) l m)
 | [],[],_,_,_=>by simp[w8]
 |a::l,b::m,h,hl,hm=>by
  simp only[w8,List.zipWith_cons_cons];rw[X0 _ _ hl.head hm.head,UZ l m (by simpa using h) hl.tail hm.tail]
theorem U0:∀(l m:List Nat),l.length=m.length→w8 l+w8 m=w8 (List.zipWith (·+·) l m)
 | [],[],_=>by simp[w8]
 |a::l,b::m,h=>by
  simp only[w8,List.zipWith_cons_cons];rw[←U0 l m (by simpa using h)];omega
theorem Ke {f:Nat→Nat→Nat}(hf:∀a b,a<256→b<256→f a b<256):∀{l m:List Nat},Bytes l→Bytes m→Bytes (List.zipWith f l m)
 | [],_,_,_=>by simp[Bytes]
 |_::_,[],_,_=>by simp[Bytes]
 |a::l,b::m,hl,hm=>fun x hx=>by
  rw[List.zipWith_cons_cons,List.mem_cons]at hx;rcases hx with rfl|hx
  ·exact hf _ _ hl.head hm.head
  ·exact Ke hf hl.tail hm.tail x hx
theorem CW {f:Nat→Nat}(hf:∀a,a<256→f a<256)(hl:Bytes l):Bytes (l.map f):=fun x hx=>by
 obtain⟨a,ha,rfl⟩:=List.mem_map.1 hx;exact hf a (hl a ha)
theorem xC (f:Nat→Nat→Nat)(b:Nat):∀(l:List Nat),List.zipWith f l (List.replicate l.length b)=l.map fun a=>f a b
 | []=>rfl
 |a::t=>by rw[List.length_cons,List.replicate_succ,List.zipWith_cons_cons,xC f b t];rfl
theorem rG {n:Nat}(h:b<256):Bytes (List.replicate n b):=fun x hx=>by rw[List.mem_replicate]at hx;rw[hx.2];exact h
theorem ab3 (b:Nat):w8 (List.replicate 8 b)=72340172838076673*b:=by simp[w8,List.replicate];omega
theorem CX:∀(l:List Nat),Bytes l→w8 (l.map fun a=>255-a)=256^l.length-1-w8 l
 | [],_=>by simp[w8]
 |a::t,h=>by
  have h1:=MX t h.tail;have h2:=h.head;simp only[List.map_cons,w8,List.length_cons,CX t h.tail,Nat.pow_succ];omega
theorem Kg:(9259542123273814144:Nat)=w8 (List.replicate 8 128):=by simp[w8,List.replicate]
theorem Nf:(9187201950435737471:Nat)=w8 (List.replicate 8 127):=by simp[w8,List.replicate]
def eZ (a:Nat):Nat:=if a<128 then 0 else 128
theorem aaX (a:Nat)(h:a<256):a &&& 128=eZ a:=by
 have:∀a:Fin 256,a.val &&& 128=eZ a.val:=by decide+kernel
 exact this ⟨a,h⟩
theorem aaY (h:Bytes l)(hl:l.length=8):w8 l &&& 9259542123273814144=w8 (l.map eZ):=by
 rw[Kg,←hl,zZ l _ (by simp) h (rG (by omega)),xC];congr 1;exact List.map_congr_left fun a ha=>aaX a (h a ha)
def lF (b a:Nat):Nat:=if a=b then 128 else 0
theorem U1 (x:Nat)(h:x<256):(255-(((x &&& 127)+127)|||x)) &&& 128=if x=0 then 128 else 0:=by
 have:∀a:Fin 256,(255-(((a.val &&& 127)+127)|||a.val)) &&& 128=if a.val=0 then 128 else 0:=by decide+kernel
 exact this ⟨x,h⟩
theorem X3 (h:Bytes l)(hl:l.length=8)(b:Nat)(hb:b<256):
  (18446744073709551615-((((w8 l^^^w8 (List.replicate 8 b)) &&& 9187201950435737471)+9187201950435737471)|||(w8 l^^^w8 (List.replicate 8 b)))) &&& 9259542123273814144=w8 (l.map (lF b)):=by
 have hx:w8 l^^^w8 (List.replicate 8 b)=w8 (l.map fun a=>a^^^b):=by rw[←hl,UZ l _ (by simp) h (rG hb),xC]
 rw[hx]
 have hB:Bytes (l.map fun a=>a^^^b):=fun x hxm=>by
  obtain⟨a,ha,rfl⟩:=List.mem_map.1 hxm;exact Nat.xor_lt_two_pow (n:=8) (h a ha) hb
 have hlx:(l.map fun a=>a^^^b).length=8:=by simpa using hl
 obtain⟨m,hm⟩:∃m,m=l.map fun a=>a^^^b:=⟨_,rfl⟩;rw[←hm]at hB hlx⊢
 have e1:w8 m &&& 9187201950435737471=w8 (m.map fun a=>a &&& 127):=by rw[Nf,←hlx,zZ m _ (by simp) hB (rG (by omega)),xC]
 have hB1:Bytes (m.map fun a=>(a &&& 127)+127):=CW (fun a _=>by have:=Nat.and_le_right (n:=a) (m:=127);omega) hB
 have e2:w8 (m.map fun a=>a &&& 127)+9187201950435737471=w8 (m.map fun a=>(a &&& 127)+127):=by
  rw[Nf,show List.replicate 8 127=List.replicate (m.map fun a=>a &&& 127).length 127 by simp[hlx],U0 _ _ (by simp),xC,List.map_map];rfl
 rw[e1,e2,SB _ m (by simp) hB1 hB]
 have e3:List.zipWith (·|||·) (m.map fun a=>(a &&& 127)+127) m=m.map fun a=>((a &&& 127)+127)|||a:=by
  clear hB hlx hm e1 hB1 e2 hx
  induction m with
  |nil=>rfl
  |cons a t ih=>simp[ih]
 rw[e3];have hB2:Bytes (m.map fun a=>((a &&& 127)+127)|||a):=CW (fun a ha=>Nat.or_lt_two_pow (n:=8) (by have:=Nat.and_le_right (n:=a) (m:=127);omega) ha) hB;have e4:=CX _ hB2;rw[List.length_map,hlx,List.map_map]at e4;rw[show(18446744073709551615:Nat)=256^8-1 by decide,←e4]
 have hB3:Bytes (m.map ((fun a=>255-a)∘fun a=>((a &&& 127)+127)|||a)):=fun x hxm=>by
  obtain⟨a,ha,rfl⟩:=List.mem_map.1 hxm;show 255-_<256;omega
 rw[Kg,show List.replicate 8 128=List.replicate (m.map ((fun a=>255-a)∘fun a=>((a &&& 127)+127)|||a)).length 128 by simp[hlx],zZ _ _ (by simp) hB3 (rG (by omega)),xC,List.map_map,hm,List.map_map];congr 1;refine List.map_congr_left fun a ha=> ?_;show(255-((((a^^^b) &&& 127)+127)|||(a^^^b))) &&& 128=lF b a;rw[U1 _ (Nat.xor_lt_two_pow (n:=8) (h a ha) hb)];unfold lF;by_cases hab:a=b
 ·subst hab;simp
 ·rw[if_neg hab,if_neg];intro h0;refine hab (Nat.eq_of_testBit_eq fun j=> ?_)
  have h1:(a^^^b).testBit j=false:=by rw[h0];exact Nat.zero_testBit j
  rw[Nat.testBit_xor]at h1;revert h1
  cases a.testBit j<;>cases b.testBit j<;>simp
theorem Q0:∀(l:List Nat) (i:Nat),Bytes l→w8 l/256^i % 256=l.getD i 0
 | [],i,_=>by simp[w8]
 |a::t,0,h=>by have:=h.head;simp[w8];omega
 |a::t,i+1,h=>by
  have:=h.head;have ih:=Q0 t i h.tail;rw[List.getD_cons_succ,←ih,w8,Nat.pow_succ,Nat.mul_comm (256^i) 256,←Nat.div_div_eq_div_mul,show(a+256*w8 t)/256=w8 t by omega]
def dw (i:Nat):List Nat→List Nat
 | []=> []
 |b::t=>if b=128 then i::dw (i+1) t else dw (i+1) t
end Go.Proofs.YtbfpfgfgfjhpfaaGreatDoor.dP

/-! What the program reckons with words of lanes. No program in sight. -/
namespace Go.Proofs.YtbfpfgfgfjhpfaaGreatDoor.dP
set_option maxRecDepth 100000
set_option maxHeartbeats 400000
open Go Go.RowKit dP
variable {b i : Nat} {l : List Nat}
theorem tN (a b:Nat)(ha:a<18446744073709551616)(hb:b<18446744073709551616):
  bits .andNot .u64 (a:Int) (b:Int)=((a &&& (18446744073709551615-b):Nat):Int):=by
 have hx:a &&& (18446744073709551615-b)<2^64:=Nat.and_lt_two_pow _ (by omega)
 have h1:(BitVec.ofInt 64 (a:Int)).toNat=a:=by
  rw[BitVec.ofInt_natCast,BitVec.toNat_ofNat];exact Nat.mod_eq_of_lt (by omega)
 have h2:(BitVec.ofInt 64 (b:Int)).toNat=b:=by
  rw[BitVec.ofInt_natCast,BitVec.toNat_ofNat];exact Nat.mod_eq_of_lt (by omega)
 show IntKind.u64.wrap ((BitVec.ofInt 64 (a:Int) &&& ~~~ BitVec.ofInt 64 (b:Int)).toNat:Int)=_;rw[BitVec.toNat_and,BitVec.toNat_not,h1,h2,IntKind.wrap_u64]
 have:(2:Nat)^64-1-b=18446744073709551615-b:=by omega
 rw[this];omega
theorem X4 (a:Nat)(ha:a<18446744073709551616):18446744073709551615^^^a=18446744073709551615-a:=by
 have h1:(BitVec.ofNat 64 a).toNat=a:=by rw[BitVec.toNat_ofNat];exact Nat.mod_eq_of_lt (by omega)
 have h2:=congrArg BitVec.toNat (BitVec.not_def (x:=BitVec.ofNat 64 a));rw[BitVec.toNat_xor,BitVec.toNat_not,BitVec.toNat_allOnes,h1]at h2
 have:(2:Nat)^64-1=18446744073709551615:=by decide
 rw[this]at h2;exact h2.symm
theorem aaZ:IntKind.u64.max=((18446744073709551615:Nat):Int):=by decide
theorem E8 (a:Nat)(ha:a<18446744073709551616):bits .xor .u64 IntKind.u64.max (a:Int)=((18446744073709551615-a:Nat):Int):=by
 rw[aaZ,bits_xor_u64_nat _ _ (by decide) ha,X4 a ha]
theorem xJ {n:Nat}(_h:n<18446744073709551616):IntKind.u64.wrap (n:Int)=(n:Int):=by rw[IntKind.wrap_u64];omega
def uD (b:Nat):Nat:=w8 (List.replicate 8 b)
theorem aa0 (h:b<256):uD b<18446744073709551616:=rF (rG h) (by simp)
theorem SC (_:b<256):(72340172838076673:Int)*(b:Int)=((uD b:Nat):Int):=by
 unfold uD;rw[ab3];omega
theorem X5 (hb:Bytes l)(hl:l.length=8):bits .and .u64 ((w8 l:Nat):Int) 9259542123273814144=((w8 (l.map eZ):Nat):Int):=by
 rw[←aaY hb hl];exact bits_and_u64_nat _ _ (rF hb hl) (by decide)
theorem U2 (hb:Bytes l)(hl:l.length=8)(h8:b<256):
  bits .and .u64 (bits .xor .u64 IntKind.u64.max (bits .or .u64 (IntKind.u64.wrap (bits .andNot .u64 (bits .xor .u64 ((w8 l:Nat):Int) ((uD b:Nat):Int)) 9259542123273814144+9187201950435737471)) (bits .xor .u64 ((w8 l:Nat):Int) ((uD b:Nat):Int)))) 9259542123273814144=
   ((w8 (l.map (lF b)):Nat):Int):=by
 have ad7:=rF hb hl;have hr:=aa0 h8;rw[bits_xor_u64_nat _ _ ad7 hr]
 have hx:w8 l^^^uD b<18446744073709551616:=by
  have:=Nat.xor_lt_two_pow (n:=64) (x:=w8 l) (y:=uD b) (by omega) (by omega);omega
 obtain⟨x,hxe⟩:∃x,x=w8 l^^^uD b:=⟨_,rfl⟩;rw[←hxe]at hx⊢;have e1:bits .andNot .u64 (x:Int) 9259542123273814144=((x &&& 9187201950435737471:Nat):Int):=tN x 9259542123273814144 hx (by decide);rw[e1];have hand:x &&& 9187201950435737471≤9187201950435737471:=Nat.and_le_right
 have e2:((x &&& 9187201950435737471:Nat):Int)+9187201950435737471=(((x &&& 9187201950435737471)+9187201950435737471:Nat):Int):=by omega
 rw[e2,xJ (by omega),bits_or_u64_nat _ _ (by omega) hx]
 have hor:((x &&& 9187201950435737471)+9187201950435737471)|||x<18446744073709551616:=by
  have:=Nat.or_lt_two_pow (n:=64) (x:=(x &&& 9187201950435737471)+9187201950435737471) (y:=x) (by omega) (by omega);omega
 rw[E8 _ hor];have e3:=bits_and_u64_nat (18446744073709551615-(((x &&& 9187201950435737471)+9187201950435737471)|||x)) 9259542123273814144 (by omega) (by decide);rw[←X3 hb hl b h8];unfold uD at hxe;rw[←hxe];exact e3
theorem X6 (hb:Bytes l)(i:Nat):((w8 l:Nat):Int)/2^(8*i) % 256=((l.getD i 0:Nat):Int):=by
 rw[←Q0 l i hb]
 have:(2:Nat)^(8*i)=256^i:=by rw[Nat.pow_mul]
 have e:((2:Int)^(8*i))=((256^i:Nat):Int):=by rw[←this];simp
 rw[e];omega
theorem oQ {a:Nat}(h:a<256):a &&& 255=a:=by
 have:=Nat.and_two_pow_sub_one_eq_mod a 8;rw[show(255:Nat)=2^8-1 by decide,this];omega
theorem eight (hl:l.length=8):∃a0 a1 a2 a3 a4 a5 a6 a7,l=[a0,a1,a2,a3,a4,a5,a6,a7]:=by
 match l,hl with
 | [a0,a1,a2,a3,a4,a5,a6,a7],_=>exact⟨a0,a1,a2,a3,a4,a5,a6,a7,rfl⟩
theorem X7 (hb:Bytes l)(hl:l.length=8)(hi:i<8)(h8:b<256):
  (w8 l &&& (18446744073709551615-255*256^i))|||(b*256^i)=w8 (l.set i b):=by
 have hz:∀x,x*256^i=w8 ((List.replicate 8 0).set i x):=by
  intro x
  have:i=0∨i=1∨i=2∨i=3∨i=4∨i=5∨i=6∨i=7:=by omega
  rcases this with rfl|rfl|rfl|rfl|rfl|rfl|rfl|rfl<;>simp[w8,List.replicate]<;>omega
 have hB0:∀x,x<256→Bytes ((List.replicate 8 0).set i x):=fun x hx y hy=>by
  rcases List.mem_or_eq_of_mem_set hy with hy|rfl
  ·rw[(List.mem_replicate.1 hy).2];omega
  ·exact hx
 have hn:18446744073709551615-255*256^i=w8 (((List.replicate 8 0).set i 255).map fun a=>255-a):=by
  rw[CX _ (hB0 255 (by omega)),hz 255];simp
 have hBn:Bytes (((List.replicate 8 0).set i 255).map fun a=>255-a):=fun y hy=>by
  obtain⟨a,_,rfl⟩:=List.mem_map.1 hy;omega
 rw[hn,hz b,zZ l _ (by simp[hl]) hb hBn];have hBa:Bytes (List.zipWith (· &&& ·) l (((List.replicate 8 0).set i 255).map fun a=>255-a)):=Ke (fun a b ha _=>Nat.lt_of_le_of_lt Nat.and_le_left ha) hb hBn;rw[SB _ _ (by simp[hl]) hBa (hB0 b h8)];congr 1;obtain⟨a0,a1,a2,a3,a4,a5,a6,a7,rfl⟩:=eight hl;have b0:=oQ (hb a0 (by simp));have b1:=oQ (hb a1 (by simp));have b2:=oQ (hb a2 (by simp));have b3:=oQ (hb a3 (by simp));have b4:=oQ (hb a4 (by simp));have b5:=oQ (hb a5 (by simp));have b6:=oQ (hb a6 (by simp));have b7:=oQ (hb a7 (by simp))
 have:i=0∨i=1∨i=2∨i=3∨i=4∨i=5∨i=6∨i=7:=by omega
 rcases this with rfl|rfl|rfl|rfl|rfl|rfl|rfl|rfl<;>simp[List.replicate,b0,b1,b2,b3,b4,b5,b6,b7]
theorem X8 (hb:Bytes l)(hl:l.length=8)(hi:i<8)(h8:b<256):
  bits .or .u64 (bits .andNot .u64 ((w8 l:Nat):Int) (IntKind.u64.wrap (255*2^(8*i)))) (IntKind.u64.wrap ((b:Int)*2^(8*i)))=((w8 (l.set i b):Nat):Int):=by
 have e:((2:Int)^(8*i))=((256^i:Nat):Int):=by
  have:(2:Nat)^(8*i)=256^i:=by rw[Nat.pow_mul]
  rw[←this];simp
 have hp:256^i≤256^7:=Nat.pow_le_pow_right (by omega) (by omega)
 have h7:(256:Nat)^7=72057594037927936:=by decide
 rw[h7]at hp;have hbp:b*256^i≤255*256^i:=Nat.mul_le_mul_right _ (by omega)
 have e1:(255:Int)*2^(8*i)=((255*256^i:Nat):Int):=by rw[e];simp
 have e2:(b:Int)*2^(8*i)=((b*256^i:Nat):Int):=by rw[e];simp
 rw[e1,e2,xJ (by omega),xJ (by omega),tN _ _ (rF hb hl) (by omega)];have hand:w8 l &&& (18446744073709551615-255*256^i)<18446744073709551616:=Nat.lt_of_le_of_lt Nat.and_le_left (rF hb hl);rw[bits_or_u64_nat _ _ hand (by omega),X7 hb hl hi h8]
theorem Aa:∀(l:List Nat),w8 l=0↔∀b∈l,b=0
 | []=>by simp[w8]
 |a::t=>by
  have:=Aa t;simp only[w8,List.mem_cons,forall_eq_or_imp];rw[←this];omega
def Marks (l:List Nat):Prop:=∀b∈l,b=0∨b=128
theorem Marks.bytes (h:Marks l):Bytes l:=fun b hb=>by rcases h b hb with rfl|rfl<;>omega
theorem rH (l:List Nat):Marks (l.map eZ):=fun b hb=>by
 obtain⟨a,_,rfl⟩:=List.mem_map.1 hb
 unfold eZ;split<;>simp
theorem Gb (b:Nat)(l:List Nat):Marks (l.map (lF b)):=fun x hx=>by
 obtain⟨a,_,rfl⟩:=List.mem_map.1 hx
 unfold lF;split<;>simp
theorem vg (h:Marks l):l.map eZ=l:=by
 conv=>rhs;rw[←List.map_id l]
 exact List.map_congr_left fun b hb=>by rcases h b hb with rfl|rfl<;>rfl
def firstM (l:List Nat):Option Nat:=l.findIdx? (·==128)
def mU:List Nat→List Nat
 | []=> []
 |b::t=>if b=128 then 0::t else b::mU t
theorem CY:∀l,(mU l).length=l.length
 | []=>rfl
 |b::t=>by unfold mU;split<;>simp[CY t]
theorem He:∀{l:List Nat},Marks l→Marks (mU l)
 | [],h=>h
 |b::t,h=>by
  have ht:Marks t:=fun x hx=>h x (by simp[hx]);unfold mU;split
  ·intro x hx;rcases List.mem_cons.1 hx with rfl|hx
   ·exact .inl rfl
   ·exact ht x hx
  ·intro x hx;rcases List.mem_cons.1 hx with rfl|hx
   ·exact h x (by simp)
   ·exact He ht x hx
theorem Ng:∀{l:List Nat},Marks l→w8 l≠0→w8 l &&& (w8 l-1)=w8 (mU l)
 | [],_,h=>absurd rfl h
 |b::t,h,h0=>by
  have ht:Marks t:=fun x hx=>h x (by simp[hx]);unfold mU;rcases h b (by simp)with rfl|rfl
  ·rw[if_neg (by omega)];simp only[w8]at h0⊢
   have hpos:w8 t≠0:=by omega
   have e:0+256*w8 t-1=255+256*(w8 t-1):=by omega
   rw[e,and_cons _ _ (by omega) (by omega),Ng ht hpos];rfl
  ·rw[if_pos rfl];simp only[w8]at h0⊢
   have e:128+256*w8 t-1=127+256*w8 t:=by omega
   rw[e,and_cons _ _ (by omega) (by omega),Nat.and_self];rfl
theorem X9 (h:Marks l)(hl:l.length=8)(h0:w8 l≠0):bits .and .u64 ((w8 l:Nat):Int) (IntKind.u64.wrap (((w8 l:Nat):Int)-1))=((w8 (mU l):Nat):Int):=by
 have h64:=rF h.bytes hl
 have e:((w8 l:Nat):Int)-1=((w8 l-1:Nat):Int):=by omega
 rw[e,xJ (by omega),bits_and_u64_nat _ _ h64 (by omega),Ng h h0]
theorem Gc (h:firstM l=some i):i<l.length:=(List.findIdx?_eq_some_iff_getElem.1 h).1
theorem pY (h:Marks l):w8 l=0↔firstM l=none:=by
 rw[Aa];unfold firstM;rw[List.findIdx?_eq_none_iff];constructor
 ·intro h1 x hx;rw[h1 x hx];rfl
 ·intro h1 x hx;rcases h x hx with h2|h2
  ·exact h2
  ·have:=h1 x hx;rw[h2]at this;simp at this
end Go.Proofs.YtbfpfgfgfjhpfaaGreatDoor.dP

/-! The least marked lane, by the table of bits. No program in sight. -/
namespace Go.Proofs.YtbfpfgfgfjhpfaaGreatDoor.dP
set_option maxRecDepth 100000
set_option maxHeartbeats 400000
open Go Go.RowKit dP
variable {l : List Nat} {i : Nat}
theorem and_not_self:∀(l:List Nat),Bytes l→w8 l &&& (256^l.length-1-w8 l)=0
 |l,h=>by
  rw[←CX l h]
  have hB:Bytes (l.map fun a=>255-a):=fun y hy=>by
   obtain⟨a,_,rfl⟩:=List.mem_map.1 hy;omega
  rw[zZ l _ (by simp) h hB,Aa]
  have H:∀a:Fin 256,a.val &&& (255-a.val)=0:=by decide+kernel
  have:∀(l:List Nat),Bytes l→∀b∈List.zipWith (· &&& ·) l (l.map fun a=>255-a),b=0:=by
   intro l
   induction l with
   |nil=>intro _ b hb;simp at hb
   |cons a t ih=>
    intro hl b hb;rw[List.map_cons,List.zipWith_cons_cons]at hb;rcases List.mem_cons.1 hb with rfl|hb
    ·exact H ⟨a,hl.head⟩
    ·exact ih hl.tail b hb
  exact this l h
theorem Q5:∀{l:List Nat} {i:Nat},Marks l→firstM l=some i→w8 l &&& (256^l.length-w8 l)=128*256^i
 | [],_,_,h=>by simp[firstM]at h
 |b::t,i,hm,h=>by
  have ht:Marks t:=fun x hx=>hm x (by simp[hx]);have h1:=MX t ht.bytes;unfold firstM at h;rw[List.findIdx?_cons]at h;rcases hm b (by simp)with rfl|rfl
  ·simp only[show((0:Nat)==128)=false from rfl,Bool.false_eq_true,if_false]at h;obtain⟨k,hk,rfl⟩:=Option.map_eq_some_iff.1 h;have ih:=Q5 ht hk;simp only[w8,List.length_cons,Nat.pow_succ]
   have e:256^t.length*256-(0+256*w8 t)=0+256*(256^t.length-w8 t):=by omega
   rw[e,and_cons _ _ (by omega) (by omega),ih];simp;omega
  ·simp only[show((128:Nat)==128)=true from rfl,if_true]at h
   injection h with h
   subst h;simp only[w8,List.length_cons,Nat.pow_succ]
   have e:256^t.length*256-(128+256*w8 t)=128+256*(256^t.length-1-w8 t):=by omega
   rw[e,and_cons _ _ (by omega) (by omega),and_not_self t ht.bytes];rfl
def p8 (i:Nat):Nat:=128*256^i*285870213051353865 % 18446744073709551616/288230376151711744
theorem Q6 (hm:Marks l)(hl:l.length=8)(h:firstM l=some i):
  (IntKind.u64.wrap (bits .and .u64 ((w8 l:Nat):Int) (IntKind.u64.wrap (-((w8 l:Nat):Int)))*285870213051353865)/288230376151711744).toNat=p8 i:=by
 have h64:=rF hm.bytes hl
 have h0:w8 l≠0:=fun h0=>by rw[(pY hm).1 h0]at h;cases h
 have hn:IntKind.u64.wrap (-((w8 l:Nat):Int))=((18446744073709551616-w8 l:Nat):Int):=by rw[IntKind.wrap_u64];omega
 have e:=Q5 hm h;rw[hl,show(256:Nat)^8=18446744073709551616 by decide]at e;rw[hn,bits_and_u64_nat _ _ h64 (by omega),e,IntKind.wrap_u64];unfold p8
 have e2:((128*256^i:Nat):Int)*285870213051353865 % 18446744073709551616/288230376151711744=((128*256^i*285870213051353865 % 18446744073709551616/288230376151711744:Nat):Int):=by
  simp
 rw[e2,Int.toNat_natCast]
theorem Ya (i:Nat):p8 i<64:=by unfold p8;omega
theorem Q7 (hm:Marks l)(hl:l.length=8)(h:firstM l=some i):
  IntKind.u64.wrap (bits .and .u64 ((w8 l:Nat):Int) (IntKind.u64.wrap (-((w8 l:Nat):Int)))*285870213051353865)/288230376151711744=((p8 i:Nat):Int):=by
 rw[←Q6 hm hl h]
 have:0≤IntKind.u64.wrap (bits .and .u64 ((w8 l:Nat):Int) (IntKind.u64.wrap (-((w8 l:Nat):Int)))*285870213051353865)/288230376151711744:=by rw[IntKind.wrap_u64];omega
 omega
theorem Hf:∀{l:List Nat} {i:Nat} (s:Nat),firstM l=some i→dw s l=(s+i)::dw s (mU l)
 | [],_,_,h=>by simp[firstM]at h
 |b::t,i,s,h=>by
  unfold firstM at h;rw[List.findIdx?_cons]at h;by_cases hb:b=128
  ·subst hb;simp only[show((128:Nat)==128)=true from rfl,if_true]at h
   injection h with h
   subst h;simp[dw,mU]
  ·rw[if_neg (by simpa using hb)]at h;obtain⟨k,hk,rfl⟩:=Option.map_eq_some_iff.1 h;have ih:=Hf (s+1) hk;simp only[dw,mU,if_neg hb];rw[ih,show s+1+k=s+(k+1) by omega]
theorem Hg:∀{l:List Nat} (s:Nat),firstM l=none→dw s l=[]
 | [],_,_=>rfl
 |b::t,s,h=>by
  unfold firstM at h;rw[List.findIdx?_cons]at h;by_cases hb:b=128
  ·rw[if_pos (by simpa using hb)]at h;cases h
  ·rw[if_neg (by simpa using hb)]at h;have hk:firstM t=none:=Option.map_eq_none_iff.1 h;simp only[dw,if_neg hb];exact Hg (s+1) hk
theorem CZ:∀(l:List Nat) (s:Nat),(dw s l).length≤l.length
 | [],_=>Nat.le_refl _
 |b::t,s=>by
  have:=CZ t (s+1);unfold dw
  split<;>simp<;>omega
theorem Q8:∀{l:List Nat},Marks l→w8 l≠0→w8 (mU l)<w8 l
 | [],_,h=>absurd rfl h
 |b::t,h,h0=>by
  have ht:Marks t:=fun x hx=>h x (by simp[hx]);rcases h b (by simp)with rfl|rfl
  ·simp only[w8,mU,show((0:Nat)=128)=False by simp,if_false]at h0⊢;have:=Q8 ht (by omega);omega
  ·simp[w8,mU]
theorem Qh (h:Marks l)(h0:w8 l≠0):∃i,firstM l=some i:=by
 cases hf:firstM l with
 |some i=>exact⟨i,rfl⟩
 |none=>exact absurd ((pY h).2 hf) h0
end Go.Proofs.YtbfpfgfgfjhpfaaGreatDoor.dP

/-! Words of eight lanes, and control words, by their contracts. -/
namespace Go.Proofs.YtbfpfgfgfjhpfaaGreatDoor
set_option maxRecDepth 100000
set_option maxHeartbeats 400000
open Go Go.RowKit dP
theorem Ab {a b:Int}(h:a=b):Ending.returned (.int .u64 a)= .returned (.int .u64 b):=by rw[h]
theorem E9 (b:Nat)(hb:b<256)(w:World):Calls Tryz.prog 231 #[.int .u8 (b:Int)] w fun e w'=>e= .returned (.int .u64 ((uD b:Nat):Int))∧w=w':=by
 have HW:=qd (SC hb);go_in;go_wp2;go_ret;exact⟨Ab HW.out,rfl⟩
theorem aa1 (i:Nat)(w:World):Calls Tryz.prog 232 #[.int .i64 (i:Int)] w fun e w'=>e= .returned (.bool (decide (i<8)))∧w=w':=by
 by_cases h:i<8
 ·have h':(i:Int)<8:=by omega
  have HD:=qd (decide_eq_true h);go_in;go_wp2;go_ret;exact⟨Bc (by first|exact HD.out.symm|rfl|simp[HD.out]),rfl⟩
 ·have h':¬(i:Int)<8:=by omega
  have HD:=qd (show decide (i<8)=false from decide_eq_false h);go_in;go_wp2;go_ret;exact⟨Bc (by first|exact HD.out.symm|rfl|simp[HD.out]),rfl⟩
theorem Fa (i:Nat)(hi:i<8)(w:World):Calls Tryz.prog 232 #[.int .i64 (i:Int)] w fun e w'=>e= .returned (.bool true)∧w=w':=by
 have:=aa1 i w;rw[decide_eq_true hi]at this;exact this
theorem vk (l:List Nat)(hl:l.length=8)(hb:Bytes l)(w:World):Calls Tryz.prog 214 #[.int .u64 ((w8 l:Nat):Int)] w fun e w'=>e= .returned (.int .u64 ((w8 (l.map eZ):Nat):Int))∧w=w':=by
 have HV:=qd (X5 hb hl);clear hl hb;go_in;go_wp2;go_ret;exact⟨Ab HV.out,rfl⟩
theorem Hl (l:List Nat)(hl:l.length=8)(hb:Bytes l)(b:Nat)(mK:b<256)(w:World):Calls Tryz.prog 217 #[.int .u64 ((w8 l:Nat):Int),.int .u8 (b:Int)] w fun e w'=>e= .returned (.int .u64 ((w8 (l.map (lF b)):Nat):Int))∧w=w':=by
 have HR:=qd (fun W=>E9 b mK W);have HV:=qd (U2 hb hl mK);clear hl hb;go_in;go_wp2_with fail;refine(HR.out _).mono ?_;rintro e w1 ⟨rfl,rfl⟩;go_wp2;go_ret;exact⟨Ab HV.out,rfl⟩
theorem U3 (l:List Nat)(hb:Bytes l)(i:Nat)(hi:i<8)(w:World):Calls Tryz.prog 218 #[.int .u64 ((w8 l:Nat):Int),.int .i64 (i:Int)] w fun e w'=>e= .returned (.tuple #[.int .u8 ((l.getD i 0:Nat):Int),.bool true])∧w=w':=by
 have HR:=qd (fun W=>Fa i hi W);have HV:=qd (X6 hb i);clear hb;go_in;go_wp2_with fail;refine(HR.out _).mono ?_;rintro e w1 ⟨rfl,rfl⟩;go_wp2;rw[HV.out];go_ret2;exact⟨rfl,rfl⟩
theorem U4 (l:List Nat)(hl:l.length=8)(hb:Bytes l)(i b:Nat)(hi:i<8)(mK:b<256)(w:World):Calls Tryz.prog 234 #[.int .u64 ((w8 l:Nat):Int),.int .i64 (i:Int),.int .u8 (b:Int)] w fun e w'=>e= .returned (.int .u64 ((w8 (l.set i b):Nat):Int))∧∃n,w'=w.drewN n:=by
 have HR:=qd (fun W=>Fa i hi W);have HV:=qd (X8 hb hl hi mK);clear hl hb;go_in;go_wp2_with fail;refine(HR.out _).mono ?_;rintro e w1 ⟨rfl,rfl⟩;go_wp2;go_quiet (fail);go_wp2;go_ret;exact⟨Ab HV.out,⟨_,rfl⟩⟩
def gZ (w:World):Prop:=∀i,i<8→w.cell? ⟨13,p8 i,none⟩=some (.int .u8 ((8*i+7:Nat):Int))
theorem aa2 (l:List Nat)(hl:l.length=8)(hm:Marks l)(i:Nat)(hi:firstM l=some i)(w:World)(hT:gZ w):
  Calls Tryz.prog 215 #[.int .u64 ((w8 l:Nat):Int)] w fun e w'=>e= .returned (.int .i64 ((8*i+7:Nat):Int))∧w=w':=by
 have h8:i<8:=by have:=Gc hi;omega
 have hT1:=hT i h8
 have h0:(((w8 l:Nat):Int)==0)=false:=by
  rw[beq_eq_false_iff_ne];intro h0;rw[(pY hm).1 (by omega)]at hi;cases hi
 have hT':w.cell? ⟨13,(IntKind.u64.wrap (bits .and .u64 ((w8 l:Nat):Int) (IntKind.u64.wrap (-((w8 l:Nat):Int)))*285870213051353865)/288230376151711744).toNat,none⟩=some (.int .u8 ((8*i+7:Nat):Int)):=by
  rw[Q6 hm hl hi];exact hT1
 have hlt:IntKind.u64.wrap (bits .and .u64 ((w8 l:Nat):Int) (IntKind.u64.wrap (-((w8 l:Nat):Int)))*285870213051353865)/288230376151711744<64:=by
  rw[Q7 hm hl hi];have:=Ya i;omega
 have hge:0≤IntKind.u64.wrap (bits .and .u64 ((w8 l:Nat):Int) (IntKind.u64.wrap (-((w8 l:Nat):Int)))*285870213051353865)/288230376151711744:=by
  rw[Q7 hm hl hi];omega
 clear hT1 hT hm hi hl;go_in;go_wp2;go_ret;exact⟨iG (by omega),rfl⟩
theorem yR (l:List Nat)(hl:l.length=8)(hb:Bytes l)(i:Nat)(hi:firstM (l.map eZ)=some i)(w:World)(hT:gZ w):
  Calls Tryz.prog 182 #[.int .u64 ((w8 l:Nat):Int)] w fun e w'=>e= .returned (.int .i64 (i:Int))∧w=w':=by
 have hm:=rH l
 have hlm:(l.map eZ).length=8:=by simpa using hl
 have h0:(((w8 (l.map eZ):Nat):Int)==0)=false:=by
  rw[beq_eq_false_iff_ne];intro h0;rw[(pY hm).1 (by omega)]at hi;cases hi
 have HT:=qd (aa2 (l.map eZ) hlm hm i hi w hT);have HH:=qd (vk l hl hb w)
 have hp:(0:Int)≤8*(i:Int)+7:=by omega
 have hp2:8*(i:Int)+7≤1000000:=by have:=Gc hi;omega
 clear hl hb hi hm hlm hT;go_in;go_wp2_with fail;refine HH.out.mono ?_;rintro e w1 ⟨rfl,rfl⟩;go_wp2_with fail;refine HT.out.mono ?_;rintro e w1 ⟨rfl,rfl⟩;go_wp2;go_ret;exact⟨iG (by omega),rfl⟩
theorem Ho (l:List Nat)(hl:l.length=8)(hb:Bytes l)(hi:firstM (l.map eZ)=none)(w:World):
  Calls Tryz.prog 182 #[.int .u64 ((w8 l:Nat):Int)] w fun e w'=>e= .returned (.int .i64 (-1))∧w=w':=by
 have h0:(((w8 (l.map eZ):Nat):Int)==0)=true:=by
  rw[beq_iff_eq,(pY (rH l)).2 hi];rfl
 have HH:=qd (vk l hl hb w);clear hl hb hi;go_in;go_wp2_with fail;refine HH.out.mono ?_;rintro e w1 ⟨rfl,rfl⟩;go_wp2;go_ret;exact⟨rfl,rfl⟩
def uE:Option Nat→Int
 |some i=>(i:Int)
 |none=> -1
theorem SE (l:List Nat)(hl:l.length=8)(hb:Bytes l)(w:World)(hT:gZ w):
  Calls Tryz.prog 182 #[.int .u64 ((w8 l:Nat):Int)] w fun e w'=>e= .returned (.int .i64 (uE (firstM (l.map eZ))))∧w=w':=by
 cases h:firstM (l.map eZ)with
 |some i=>exact yR l hl hb i h w hT
 |none=>exact Ho l hl hb h w
theorem Yb (w:World):Calls Tryz.prog 212 #[] w fun e w'=>e= .returned (.int .u64 ((uD 128:Nat):Int))∧w=w':=by
 have HR:=qd (E9 128 (by omega) w);go_in;go_wp2_with fail;refine HR.out.mono ?_;rintro e w1 ⟨rfl,rfl⟩;go_wp2;go_ret;exact⟨rfl,rfl⟩
theorem Nh (b:Nat)(hb:b<256)(h:b≤128∨b=254)(w:World):Calls Tryz.prog 233 #[.int .u8 (b:Int)] w fun e w'=>e= .returned (.bool true)∧w=w':=by
 rcases h with h|rfl
 ·have h':(b:Int)≤128:=by omega
  go_in;go_wp2;go_ret;exact⟨rfl,rfl⟩
 ·go_in;go_wp2;go_ret;exact⟨rfl,rfl⟩
theorem Gd (l:List Nat)(hb:Bytes l)(i:Nat)(hi:i<8)(w:World):Calls Tryz.prog 189 #[.int .u64 ((w8 l:Nat):Int),.int .i64 (i:Int)] w fun e w'=>e= .returned (.int .u8 ((l.getD i 0:Nat):Int))∧w=w':=by
 have HR:=qd (U3 l hb i hi w);clear hb hi;go_in;go_wp2_with fail;refine HR.out.mono ?_;rintro e w1 ⟨rfl,rfl⟩;go_wp2;go_ret;exact⟨rfl,rfl⟩
theorem Yc (l:List Nat)(hl:l.length=8)(hb:Bytes l)(i b:Nat)(hi:i<8)(mK:b<256)(h:b≤128∨b=254)(w:World):Calls Tryz.prog 219 #[.int .u64 ((w8 l:Nat):Int),.int .i64 (i:Int),.int .u8 (b:Int)] w fun e w'=>e= .returned (.tuple #[.int .u64 ((w8 (l.set i b):Nat):Int),.nilIface])∧∃n,w'=w.drewN n:=by
 have HR:=qd (U4 l hl hb i b hi mK w);have HC:=qd (Nh b mK h w)
 have hi':(i:Int)<8:=by omega
 clear hb hi hl mK h;go_in;go_wp2_with fail;refine HC.out.mono ?_;rintro e w1 ⟨rfl,rfl⟩;go_wp2_with fail;refine HR.out.mono ?_;rintro e w1 ⟨rfl,n,rfl⟩;go_wp2;go_ret2;exact⟨rfl,n,rfl⟩
theorem SF (l:List Nat)(hl:l.length=8)(hb:Bytes l)(b:Nat)(mK:b<128)(w:World):Calls Tryz.prog 185 #[.int .u64 ((w8 l:Nat):Int),.int .u8 (b:Int)] w fun e w'=>e= .returned (.int .u64 ((w8 (l.map (lF b)):Nat):Int))∧w=w':=by
 have HR:=qd (Hl l hl hb b (by omega) w)
 have hb':(b:Int)<128:=by omega
 clear hb hl mK;go_in;go_wp2_with fail;refine HR.out.mono ?_;rintro e w1 ⟨rfl,rfl⟩;go_wp2;go_ret;exact⟨rfl,rfl⟩
theorem Ni (l:List Nat)(hl:l.length=8)(hb:Bytes l)(w:World):Calls Tryz.prog 187 #[.int .u64 ((w8 l:Nat):Int)] w fun e w'=>e= .returned (.int .u64 ((w8 (l.map (lF 128)):Nat):Int))∧w=w':=by
 have HR:=qd (show Calls Tryz.prog 217 #[.int .u64 ((w8 l:Nat):Int),.int .u8 128] w fun e w'=>e= .returned (.int .u64 ((w8 (l.map (lF 128)):Nat):Int))∧w=w' from Hl l hl hb 128 (by omega) w);clear hb hl;go_in;go_wp2_with fail;refine HR.out.mono ?_;rintro e w1 ⟨rfl,rfl⟩;go_wp2;go_ret;exact⟨rfl,rfl⟩
theorem SG (l:List Nat)(hl:l.length=8)(hb:Bytes l)(w:World):Calls Tryz.prog 183 #[.int .u64 ((w8 l:Nat):Int)] w fun e w'=>e= .returned (.int .u64 ((w8 (l.map eZ):Nat):Int))∧w=w':=by
 have HR:=qd (vk l hl hb w);clear hb hl;go_in;go_wp2_with fail;refine HR.out.mono ?_;rintro e w1 ⟨rfl,rfl⟩;go_wp2;go_ret;exact⟨rfl,rfl⟩
def C8 (l:List Nat):List Nat:=l.map fun a=>255-a
def qP (l:List Nat):List Nat:=(C8 l).map eZ
theorem SH {l:List Nat}(hb:Bytes l)(hl:l.length=8):bits .xor .u64 IntKind.u64.max ((w8 l:Nat):Int)=((w8 (C8 l):Nat):Int):=by
 unfold C8;rw[E8 _ (rF hb hl),CX l hb,hl]
theorem SI (l:List Nat)(hl:l.length=8)(hb:Bytes l)(w:World):Calls Tryz.prog 230 #[.int .u64 ((w8 l:Nat):Int)] w fun e w'=>e= .returned (.int .u64 ((w8 (qP l):Nat):Int))∧w=w':=by
 have HR:=qd (show Calls Tryz.prog 214 #[.int .u64 ((w8 (C8 l):Nat):Int)] w fun e w'=>e= .returned (.int .u64 ((w8 (qP l):Nat):Int))∧w=w' from vk (C8 l) (by simpa[C8]using hl) (CW (fun a _=>by omega) hb) w);have HV:=qd (SH hb hl);clear hb hl;go_in;go_wp2_with fail;rw[HV.out];refine HR.out.mono ?_;rintro e w1 ⟨rfl,rfl⟩;go_wp2;go_ret;exact⟨rfl,rfl⟩
end Go.Proofs.YtbfpfgfgfjhpfaaGreatDoor
