/- Words of eight lanes, lane by lane. No program in sight. -/
import Derived.Laws.Bits64
import Derived.Laws.Bits64b
import Derived.Test.YtnfjjbpmhcbelaaGreatDoorGaugeA
namespace Go.Proofs.YtnfjjbpmhcbelaaGreatDoor.dI
set_option maxRecDepth 100000
set_option maxHeartbeats 4000000
open Go Go.RowKit kM dI ru
variable {a b : Nat} {l t : List Nat}
def w8:List Nat→Nat
 | []=>0
 |b::t=>b+256*w8 t
def Bytes (l:List Nat):Prop:=∀b∈l,b<256
theorem Bytes.head (h:Bytes (b::t)):b<256:=h b (by simp)
theorem Bytes.tail (h:Bytes (b::t)):Bytes t:=fun x hx=>h x (by simp[hx])
theorem Mt:∀(l:List Nat),Bytes l→w8 l<256^l.length
 | [],_=>by simp[w8]
 |b::t,h=>by
  have h1:=Mt t h.tail;have h2:=h.head;simp only[w8,List.length_cons,Nat.pow_succ];omega
theorem rA (h:Bytes l)(hl:l.length=8):w8 l<18446744073709551616:=by
 have:=Mt l h;rw[hl]at this;exact this
theorem nC (a x j:Nat)(ha:a<256):(a+256*x).testBit j=if j<8 then a.testBit j else x.testBit (j-8):=by
 have:=Nat.testBit_two_pow_mul_add x (b:=a) (i:=8) (by simpa using ha) j;rw[show 2^8*x+a=a+256*x by omega]at this;exact this
theorem and_cons (x y:Nat)(ha:a<256)(hb:b<256):(a+256*x) &&& (b+256*y)=(a &&& b)+256*(x &&& y):=by
 apply Nat.eq_of_testBit_eq;intro j;have h:a &&& b<256:=Nat.lt_of_le_of_lt Nat.and_le_left ha;rw[Nat.testBit_and,nC _ _ _ ha,nC _ _ _ hb,nC _ _ _ h]
 split<;>rw[Nat.testBit_and]
theorem or_cons (x y:Nat)(ha:a<256)(hb:b<256):(a+256*x)|||(b+256*y)=(a|||b)+256*(x|||y):=by
 apply Nat.eq_of_testBit_eq;intro j
 have h:a|||b<256:=Nat.or_lt_two_pow (n:=8) ha hb
 rw[Nat.testBit_or,nC _ _ _ ha,nC _ _ _ hb,nC _ _ _ h]
 split<;>rw[Nat.testBit_or]
theorem XM (x y:Nat)(ha:a<256)(hb:b<256):(a+256*x)^^^(b+256*y)=(a^^^b)+256*(x^^^y):=by
 apply Nat.eq_of_testBit_eq;intro j;have h:a^^^b<256:=Nat.xor_lt_two_pow (n:=8) ha hb;rw[Nat.testBit_xor,nC _ _ _ ha,nC _ _ _ hb,nC _ _ _ h]
 split<;>rw[Nat.testBit_xor]
theorem zR:∀(l m:List Nat),l.length=m.length→Bytes l→Bytes m→w8 l &&& w8 m=w8 (List.zipWith (· &&& ·) l m)
 | [],[],_,_,_=>by simp[w8]
 |a::l,b::m,h,hl,hm=>by
  simp only[w8,List.zipWith_cons_cons];rw[and_cons _ _ hl.head hm.head,zR l m (by simpa using h) hl.tail hm.tail]
theorem RY:∀(l m:List Nat),l.length=m.length→Bytes l→Bytes m→w8 l|||w8 m=w8 (List.zipWith (·|||·) l m)
 | [],[],_,_,_=>by simp[w8]
 |a::l,b::m,h,hl,hm=>by
  simp only[w8,List.zipWith_cons_cons];rw[or_cons _ _ hl.head hm.head,RY l m (by simpa using h) hl.tail hm.tail]
theorem Us:∀(l m:List Nat),l.length=m.length→Bytes l→Bytes m→w8 l^^^w8 m=w8 (List.zipWith (·^^^·) l m)
 | [],[],_,_,_=>by simp[w8]
 |a::l,b::m,h,hl,hm=>by
  simp only[w8,List.zipWith_cons_cons];rw[XM _ _ hl.head hm.head,Us l m (by simpa using h) hl.tail hm.tail]
theorem Ut:∀(l m:List Nat),l.length=m.length→w8 l+w8 m=w8 (List.zipWith (·+·) l m)
 | [],[],_=>by simp[w8]
 |a::l,b::m,h=>by
  simp only[w8,List.zipWith_cons_cons];rw[←Ut l m (by simpa using h)];omega
theorem J3 {f:Nat→Nat→Nat}(hf:∀a b,a<256→b<256→f a b<256):∀{l m:List Nat},Bytes l→Bytes m→Bytes (List.zipWith f l m)
 | [],_,_,_=>by simp[Bytes]
 |_::_,[],_,_=>by simp[Bytes]
 |a::l,b::m,hl,hm=>fun x hx=>by
  rw[List.zipWith_cons_cons,List.mem_cons]at hx;rcases hx with rfl|hx
  ·exact hf _ _ hl.head hm.head
  ·exact J3 hf hl.tail hm.tail x hx
theorem Cy {f:Nat→Nat}(hf:∀a,a<256→f a<256)(hl:Bytes l):Bytes (l.map f):=fun x hx=>by
 obtain⟨a,ha,rfl⟩:=List.mem_map.1 hx;exact hf a (hl a ha)
theorem xC (f:Nat→Nat→Nat)(b:Nat):∀(l:List Nat),List.zipWith f l (List.replicate l.length b)=l.map fun a=>f a b
 | []=>rfl
 |a::t=>by rw[List.length_cons,List.replicate_succ,List.zipWith_cons_cons,xC f b t];rfl
theorem rC {n:Nat}(h:b<256):Bytes (List.replicate n b):=fun x hx=>by rw[List.mem_replicate]at hx;rw[hx.2];exact h
theorem abS (b:Nat):w8 (List.replicate 8 b)=72340172838076673*b:=by simp[w8,List.replicate];omega
theorem Cz:∀(l:List Nat),Bytes l→w8 (l.map fun a=>255-a)=256^l.length-1-w8 l
 | [],_=>by simp[w8]
 |a::t,h=>by
  have h1:=Mt t h.tail;have h2:=h.head;simp only[List.map_cons,w8,List.length_cons,Cz t h.tail,Nat.pow_succ];omega
theorem J4:(9259542123273814144:Nat)=w8 (List.replicate 8 128):=by simp[w8,List.replicate]
theorem MJ:(9187201950435737471:Nat)=w8 (List.replicate 8 127):=by simp[w8,List.replicate]
def eu (a:Nat):Nat:=if a<128 then 0 else 128
theorem aaP (a:Nat)(h:a<256):a &&& 128=eu a:=by
 have:∀a:Fin 256,a.val &&& 128=eu a.val:=by decide+kernel
 exact this ⟨a,h⟩
theorem aaQ (h:Bytes l)(hl:l.length=8):w8 l &&& 9259542123273814144=w8 (l.map eu):=by
 rw[J4,←hl,zR l _ (by simp) h (rC (by omega)),xC];congr 1;exact List.map_congr_left fun a ha=>aaP a (h a ha)
def kU (b a:Nat):Nat:=if a=b then 128 else 0
theorem Uu (x:Nat)(h:x<256):(255-(((x &&& 127)+127)|||x)) &&& 128=if x=0 then 128 else 0:=by
 have:∀a:Fin 256,(255-(((a.val &&& 127)+127)|||a.val)) &&& 128=if a.val=0 then 128 else 0:=by decide+kernel
 exact this ⟨x,h⟩
theorem XO (h:Bytes l)(hl:l.length=8)(b:Nat)(hb:b<256):
  (18446744073709551615-((((w8 l^^^w8 (List.replicate 8 b)) &&& 9187201950435737471)+9187201950435737471)|||(w8 l^^^w8 (List.replicate 8 b)))) &&& 9259542123273814144=w8 (l.map (kU b)):=by
 have hx:w8 l^^^w8 (List.replicate 8 b)=w8 (l.map fun a=>a^^^b):=by rw[←hl,Us l _ (by simp) h (rC hb),xC]
 rw[hx]
 have hB:Bytes (l.map fun a=>a^^^b):=fun x hxm=>by
  obtain⟨a,ha,rfl⟩:=List.mem_map.1 hxm;exact Nat.xor_lt_two_pow (n:=8) (h a ha) hb
 have hlx:(l.map fun a=>a^^^b).length=8:=by simpa using hl
 obtain⟨m,hm⟩:∃m,m=l.map fun a=>a^^^b:=⟨_,rfl⟩;rw[←hm]at hB hlx⊢
 have e1:w8 m &&& 9187201950435737471=w8 (m.map fun a=>a &&& 127):=by rw[MJ,←hlx,zR m _ (by simp) hB (rC (by omega)),xC]
 have hB1:Bytes (m.map fun a=>(a &&& 127)+127):=Cy (fun a _=>by have:=Nat.and_le_right (n:=a) (m:=127);omega) hB
 have e2:w8 (m.map fun a=>a &&& 127)+9187201950435737471=w8 (m.map fun a=>(a &&& 127)+127):=by
  rw[MJ,show List.replicate 8 127=List.replicate (m.map fun a=>a &&& 127).length 127 by simp[hlx],Ut _ _ (by simp),xC,List.map_map];rfl
 rw[e1,e2,RY _ m (by simp) hB1 hB]
 have e3:List.zipWith (·|||·) (m.map fun a=>(a &&& 127)+127) m=m.map fun a=>((a &&& 127)+127)|||a:=by
  clear hB hlx hm e1 hB1 e2 hx
  induction m with
  |nil=>rfl
  |cons a t ih=>simp[ih]
 rw[e3];have hB2:Bytes (m.map fun a=>((a &&& 127)+127)|||a):=Cy (fun a ha=>Nat.or_lt_two_pow (n:=8) (by have:=Nat.and_le_right (n:=a) (m:=127);omega) ha) hB;have e4:=Cz _ hB2;rw[List.length_map,hlx,List.map_map]at e4;rw[show(18446744073709551615:Nat)=256^8-1 by decide,←e4]
 have hB3:Bytes (m.map ((fun a=>255-a)∘fun a=>((a &&& 127)+127)|||a)):=fun x hxm=>by
  obtain⟨a,ha,rfl⟩:=List.mem_map.1 hxm;show 255-_<256;omega
 rw[J4,show List.replicate 8 128=List.replicate (m.map ((fun a=>255-a)∘fun a=>((a &&& 127)+127)|||a)).length 128 by simp[hlx],zR _ _ (by simp) hB3 (rC (by omega)),xC,List.map_map,hm,List.map_map];congr 1;refine List.map_congr_left fun a ha=> ?_;show(255-((((a^^^b) &&& 127)+127)|||(a^^^b))) &&& 128=kU b a;rw[Uu _ (Nat.xor_lt_two_pow (n:=8) (h a ha) hb)];unfold kU;by_cases hab:a=b
 ·subst hab;simp
 ·rw[if_neg hab,if_neg];intro h0;refine hab (Nat.eq_of_testBit_eq fun j=> ?_)
  have h1:(a^^^b).testBit j=false:=by rw[h0];exact Nat.zero_testBit j
  rw[Nat.testBit_xor]at h1;revert h1
  cases a.testBit j<;>cases b.testBit j<;>simp
theorem Qx:∀(l:List Nat) (i:Nat),Bytes l→w8 l/256^i % 256=l.getD i 0
 | [],i,_=>by simp[w8]
 |a::t,0,h=>by have:=h.head;simp[w8];omega
 |a::t,i+1,h=>by
  have:=h.head;have ih:=Qx t i h.tail;rw[List.getD_cons_succ,←ih,w8,Nat.pow_succ,Nat.mul_comm (256^i) 256,←Nat.div_div_eq_div_mul,show(a+256*w8 t)/256=w8 t by omega]
def cZ (i:Nat):List Nat→List Nat
 | []=> []
 |b::t=>if b=128 then i::cZ (i+1) t else cZ (i+1) t
end Go.Proofs.YtnfjjbpmhcbelaaGreatDoor.dI

/-! What the program reckons with words of lanes. No program in sight. -/
namespace Go.Proofs.YtnfjjbpmhcbelaaGreatDoor.dI
set_option maxRecDepth 100000
set_option maxHeartbeats 4000000
open Go Go.RowKit kM dI ru
variable {b i : Nat} {l : List Nat}
theorem tV (a b:Nat)(ha:a<18446744073709551616)(hb:b<18446744073709551616):
  bits .andNot .u64 (a:Int) (b:Int)=((a &&& (18446744073709551615-b):Nat):Int):=by
 have hx:a &&& (18446744073709551615-b)<2^64:=Nat.and_lt_two_pow _ (by omega)
 have h1:(BitVec.ofInt 64 (a:Int)).toNat=a:=by
  rw[BitVec.ofInt_natCast,BitVec.toNat_ofNat];exact Nat.mod_eq_of_lt (by omega)
 have h2:(BitVec.ofInt 64 (b:Int)).toNat=b:=by
  rw[BitVec.ofInt_natCast,BitVec.toNat_ofNat];exact Nat.mod_eq_of_lt (by omega)
 show IntKind.u64.wrap ((BitVec.ofInt 64 (a:Int) &&& ~~~ BitVec.ofInt 64 (b:Int)).toNat:Int)=_;rw[BitVec.toNat_and,BitVec.toNat_not,h1,h2,IntKind.wrap_u64]
 have:(2:Nat)^64-1-b=18446744073709551615-b:=by omega
 rw[this];omega
theorem XP (a:Nat)(ha:a<18446744073709551616):18446744073709551615^^^a=18446744073709551615-a:=by
 have h1:(BitVec.ofNat 64 a).toNat=a:=by rw[BitVec.toNat_ofNat];exact Nat.mod_eq_of_lt (by omega)
 have h2:=congrArg BitVec.toNat (BitVec.not_def (x:=BitVec.ofNat 64 a));rw[BitVec.toNat_xor,BitVec.toNat_not,BitVec.toNat_allOnes,h1]at h2
 have:(2:Nat)^64-1=18446744073709551615:=by decide
 rw[this]at h2;exact h2.symm
theorem aaR:IntKind.u64.max=((18446744073709551615:Nat):Int):=by decide
theorem uP (a:Nat)(ha:a<18446744073709551616):bits .xor .u64 IntKind.u64.max (a:Int)=((18446744073709551615-a:Nat):Int):=by
 rw[aaR,bits_xor_u64_nat _ _ (by decide) ha,XP a ha]
theorem xK {n:Nat}(_h:n<18446744073709551616):IntKind.u64.wrap (n:Int)=(n:Int):=by rw[IntKind.wrap_u64];omega
def uD (b:Nat):Nat:=w8 (List.replicate 8 b)
theorem aaS (h:b<256):uD b<18446744073709551616:=rA (rC h) (by simp)
theorem RZ (_:b<256):(72340172838076673:Int)*(b:Int)=((uD b:Nat):Int):=by
 unfold uD;rw[abS];omega
theorem XQ (hb:Bytes l)(hl:l.length=8):bits .and .u64 ((w8 l:Nat):Int) 9259542123273814144=((w8 (l.map eu):Nat):Int):=by
 rw[←aaQ hb hl];exact bits_and_u64_nat _ _ (rA hb hl) (by decide)
theorem Uv (hb:Bytes l)(hl:l.length=8)(h8:b<256):
  bits .and .u64 (bits .xor .u64 IntKind.u64.max (bits .or .u64 (IntKind.u64.wrap (bits .andNot .u64 (bits .xor .u64 ((w8 l:Nat):Int) ((uD b:Nat):Int)) 9259542123273814144+9187201950435737471)) (bits .xor .u64 ((w8 l:Nat):Int) ((uD b:Nat):Int)))) 9259542123273814144=
   ((w8 (l.map (kU b)):Nat):Int):=by
 have adS:=rA hb hl;have hr:=aaS h8;rw[bits_xor_u64_nat _ _ adS hr]
 have hx:w8 l^^^uD b<18446744073709551616:=by
  have:=Nat.xor_lt_two_pow (n:=64) (x:=w8 l) (y:=uD b) (by omega) (by omega);omega
 obtain⟨x,hxe⟩:∃x,x=w8 l^^^uD b:=⟨_,rfl⟩;rw[←hxe]at hx⊢;have e1:bits .andNot .u64 (x:Int) 9259542123273814144=((x &&& 9187201950435737471:Nat):Int):=tV x 9259542123273814144 hx (by decide);rw[e1];have hand:x &&& 9187201950435737471≤9187201950435737471:=Nat.and_le_right
 have e2:((x &&& 9187201950435737471:Nat):Int)+9187201950435737471=(((x &&& 9187201950435737471)+9187201950435737471:Nat):Int):=by omega
 rw[e2,xK (by omega),bits_or_u64_nat _ _ (by omega) hx]
 have hor:((x &&& 9187201950435737471)+9187201950435737471)|||x<18446744073709551616:=by
  have:=Nat.or_lt_two_pow (n:=64) (x:=(x &&& 9187201950435737471)+9187201950435737471) (y:=x) (by omega) (by omega);omega
 rw[uP _ hor];have e3:=bits_and_u64_nat (18446744073709551615-(((x &&& 9187201950435737471)+9187201950435737471)|||x)) 9259542123273814144 (by omega) (by decide);rw[←XO hb hl b h8];unfold uD at hxe;rw[←hxe];exact e3
theorem XR (hb:Bytes l)(i:Nat):((w8 l:Nat):Int)/2^(8*i) % 256=((l.getD i 0:Nat):Int):=by
 rw[←Qx l i hb]
 have:(2:Nat)^(8*i)=256^i:=by rw[Nat.pow_mul]
 have e:((2:Int)^(8*i))=((256^i:Nat):Int):=by rw[←this];simp
 rw[e];omega
theorem oG {a:Nat}(h:a<256):a &&& 255=a:=by
 have:=Nat.and_two_pow_sub_one_eq_mod a 8;rw[show(255:Nat)=2^8-1 by decide,this];omega
theorem eight (hl:l.length=8):∃a0 a1 a2 a3 a4 a5 a6 a7,l=[a0,a1,a2,a3,a4,a5,a6,a7]:=by
 match l,hl with
 | [a0,a1,a2,a3,a4,a5,a6,a7],_=>exact⟨a0,a1,a2,a3,a4,a5,a6,a7,rfl⟩
theorem XT (hb:Bytes l)(hl:l.length=8)(hi:i<8)(h8:b<256):
  (w8 l &&& (18446744073709551615-255*256^i))|||(b*256^i)=w8 (l.set i b):=by
 have hz:∀x,x*256^i=w8 ((List.replicate 8 0).set i x):=by
  intro x
  have:i=0∨i=1∨i=2∨i=3∨i=4∨i=5∨i=6∨i=7:=by omega
  rcases this with rfl|rfl|rfl|rfl|rfl|rfl|rfl|rfl<;>simp[w8,List.replicate]<;>omega
 have hB0:∀x,x<256→Bytes ((List.replicate 8 0).set i x):=fun x hx y hy=>by
  rcases List.mem_or_eq_of_mem_set hy with hy|rfl
  ·rw[(List.mem_replicate.1 hy).2];omega
  ·exact hx
 have hn:18446744073709551615-255*256^i=w8 (((List.replicate 8 0).set i 255).map fun a=>255-a):=by
  rw[Cz _ (hB0 255 (by omega)),hz 255];simp
 have BZ:Bytes (((List.replicate 8 0).set i 255).map fun a=>255-a):=fun y hy=>by
  obtain⟨a,_,rfl⟩:=List.mem_map.1 hy;omega
 rw[hn,hz b,zR l _ (by simp[hl]) hb BZ];have hBa:Bytes (List.zipWith (· &&& ·) l (((List.replicate 8 0).set i 255).map fun a=>255-a)):=J3 (fun a b ha _=>Nat.lt_of_le_of_lt Nat.and_le_left ha) hb BZ;rw[RY _ _ (by simp[hl]) hBa (hB0 b h8)];congr 1;obtain⟨a0,a1,a2,a3,a4,a5,a6,a7,rfl⟩:=eight hl;have b0:=oG (hb a0 (by simp));have b1:=oG (hb a1 (by simp));have b2:=oG (hb a2 (by simp));have b3:=oG (hb a3 (by simp));have b4:=oG (hb a4 (by simp));have b5:=oG (hb a5 (by simp));have b6:=oG (hb a6 (by simp));have b7:=oG (hb a7 (by simp))
 have:i=0∨i=1∨i=2∨i=3∨i=4∨i=5∨i=6∨i=7:=by omega
 rcases this with rfl|rfl|rfl|rfl|rfl|rfl|rfl|rfl<;>simp[List.replicate,b0,b1,b2,b3,b4,b5,b6,b7]
theorem XU (hb:Bytes l)(hl:l.length=8)(hi:i<8)(h8:b<256):
  bits .or .u64 (bits .andNot .u64 ((w8 l:Nat):Int) (IntKind.u64.wrap (255*2^(8*i)))) (IntKind.u64.wrap ((b:Int)*2^(8*i)))=((w8 (l.set i b):Nat):Int):=by
 have e:((2:Int)^(8*i))=((256^i:Nat):Int):=by
  have:(2:Nat)^(8*i)=256^i:=by rw[Nat.pow_mul]
  rw[←this];simp
 have hp:256^i≤256^7:=Nat.pow_le_pow_right (by omega) (by omega)
 have h7:(256:Nat)^7=72057594037927936:=by decide
 rw[h7]at hp;have hbp:b*256^i≤255*256^i:=Nat.mul_le_mul_right _ (by omega)
 have e1:(255:Int)*2^(8*i)=((255*256^i:Nat):Int):=by rw[e];simp
 have e2:(b:Int)*2^(8*i)=((b*256^i:Nat):Int):=by rw[e];simp
 rw[e1,e2,xK (by omega),xK (by omega),tV _ _ (rA hb hl) (by omega)];have hand:w8 l &&& (18446744073709551615-255*256^i)<18446744073709551616:=Nat.lt_of_le_of_lt Nat.and_le_left (rA hb hl);rw[bits_or_u64_nat _ _ hand (by omega),XT hb hl hi h8]
theorem zS:∀(l:List Nat),w8 l=0↔∀b∈l,b=0
 | []=>by simp[w8]
 |a::t=>by
  have:=zS t;simp only[w8,List.mem_cons,forall_eq_or_imp];rw[←this];omega
def Marks (l:List Nat):Prop:=∀b∈l,b=0∨b=128
theorem Marks.bytes (h:Marks l):Bytes l:=fun b hb=>by rcases h b hb with rfl|rfl<;>omega
theorem rD (l:List Nat):Marks (l.map eu):=fun b hb=>by
 obtain⟨a,_,rfl⟩:=List.mem_map.1 hb
 unfold eu;split<;>simp
theorem FV (b:Nat)(l:List Nat):Marks (l.map (kU b)):=fun x hx=>by
 obtain⟨a,_,rfl⟩:=List.mem_map.1 hx
 unfold kU;split<;>simp
theorem vg (h:Marks l):l.map eu=l:=by
 conv=>rhs;rw[←List.map_id l]
 exact List.map_congr_left fun b hb=>by rcases h b hb with rfl|rfl<;>rfl
def firstM (l:List Nat):Option Nat:=l.findIdx? (·==128)
def mE:List Nat→List Nat
 | []=> []
 |b::t=>if b=128 then 0::t else b::mE t
theorem CB:∀l,(mE l).length=l.length
 | []=>rfl
 |b::t=>by unfold mE;split<;>simp[CB t]
theorem GV:∀{l:List Nat},Marks l→Marks (mE l)
 | [],h=>h
 |b::t,h=>by
  have ht:Marks t:=fun x hx=>h x (by simp[hx]);unfold mE;split
  ·intro x hx;rcases List.mem_cons.1 hx with rfl|hx
   ·exact .inl rfl
   ·exact ht x hx
  ·intro x hx;rcases List.mem_cons.1 hx with rfl|hx
   ·exact h x (by simp)
   ·exact GV ht x hx
theorem MK:∀{l:List Nat},Marks l→w8 l≠0→w8 l &&& (w8 l-1)=w8 (mE l)
 | [],_,h=>absurd rfl h
 |b::t,h,h0=>by
  have ht:Marks t:=fun x hx=>h x (by simp[hx]);unfold mE;rcases h b (by simp)with rfl|rfl
  ·rw[if_neg (by omega)];simp only[w8]at h0⊢
   have hpos:w8 t≠0:=by omega
   have e:0+256*w8 t-1=255+256*(w8 t-1):=by omega
   rw[e,and_cons _ _ (by omega) (by omega),MK ht hpos];rfl
  ·rw[if_pos rfl];simp only[w8]at h0⊢
   have e:128+256*w8 t-1=127+256*w8 t:=by omega
   rw[e,and_cons _ _ (by omega) (by omega),Nat.and_self];rfl
theorem XV (h:Marks l)(hl:l.length=8)(h0:w8 l≠0):bits .and .u64 ((w8 l:Nat):Int) (IntKind.u64.wrap (((w8 l:Nat):Int)-1))=((w8 (mE l):Nat):Int):=by
 have h64:=rA h.bytes hl
 have e:((w8 l:Nat):Int)-1=((w8 l-1:Nat):Int):=by omega
 rw[e,xK (by omega),bits_and_u64_nat _ _ h64 (by omega),MK h h0]
theorem FW (h:firstM l=some i):i<l.length:=(List.findIdx?_eq_some_iff_getElem.1 h).1
theorem pI (h:Marks l):w8 l=0↔firstM l=none:=by
 rw[zS];unfold firstM;rw[List.findIdx?_eq_none_iff];constructor
 ·intro h1 x hx;rw[h1 x hx];rfl
 ·intro h1 x hx;rcases h x hx with h2|h2
  ·exact h2
  ·have:=h1 x hx;rw[h2]at this;simp at this
end Go.Proofs.YtnfjjbpmhcbelaaGreatDoor.dI

/-! order.Form, Bits, Key, fmap.Hash and amblerref27.Form by their contracts. No statement of the claim. -/
namespace Go.Proofs.YtnfjjbpmhcbelaaGreatDoor
set_option maxRecDepth 100000
set_option maxHeartbeats 4000000
open Go Go.RowKit kM dI ru
variable {x : Nat}
theorem J5 (hn:iQ x=false):(FloatKind.f64.format.order x 0==some .eq)=decide (rung x=0):=by
 rw[abR hn (show iQ 0=false by decide),show key 0=0 by decide,Bool.eq_iff_iff];simp[XI]
theorem abT {a:Nat}(h:a<9223372036854775808):bits .or .u64 (a:Int) 9223372036854775808=((a+9223372036854775808:Nat):Int):=by
 have h1:=u64_or_nat a 9223372036854775808 (by omega) (by omega);have h2:=Nat.two_pow_add_eq_or_of_lt (i:=63) (b:=a) (by simpa using h) 1;rw[show(2:Nat)^63*1=9223372036854775808 by decide]at h2;rw[Nat.or_comm,←h2,Nat.add_comm]at h1;exact h1
def iP (k:Nat):Nat:=k*11400714819323198485 % 18446744073709551616
theorem FX (k:Nat):iP k<18446744073709551616:=Nat.mod_lt _ (by decide)
theorem pJ (x:Nat)(w:World):Calls Tryz.prog 39 #[.float .f64 x] w fun e w'=>e= .returned (.float .f64 (aQ x))∧w=w':=by
 have hx:=@run_callFunc_extern Tryz.prog 37 _ Extern.MathFloatBits.float64frombits Tryz.func37 (by kernel_rfl) (by kernel_rfl) (by kernel_rfl) (by kernel_rfl);have hf:=fun(n:Int) (W:World)=>show(Extern.MathFloatBits.float64frombits #[.int .u64 n]).run Tryz.prog W= .ok (.float .f64 n.toNat) W from rfl;have HN:=qd (fun(W:World)=>RX x W);cases hn:iQ x
 case' true=>
  rw[hn]at HN;have HV:=qd (show aQ x=9221120237041090560 from by unfold aQ;simp[hn]);clear hn
 case' false=>
  rw[hn]at HN;by_cases h0:rung x=0
  focus
   have q:(FloatKind.f64.format.order x 0==some .eq)=true:=by rw[J5 hn];simpa using h0
   have HV:=qd (show aQ x=0 from by unfold aQ;simp[hn,h0])
  rotate_left
  focus
   have q:(FloatKind.f64.format.order x 0==some .eq)=false:=by rw[J5 hn];simpa using h0
   have HV:=qd (show aQ x=x from by unfold aQ;simp[hn,h0])
  all_goals
   clear hn h0
 all_goals
  go_in;go_wp2_with fail;refine(HN.out _).mono ?_;rintro e w1 ⟨rfl,rfl⟩;go_wp2;go_ret;exact⟨ret_val (by rw[HV.out];rfl),rfl⟩
theorem GX (x:Nat)(w:World):Calls Tryz.prog 36 #[.float .f64 x] w fun e w'=>e= .returned (.int .u64 (aQ x:Int))∧w=w':=by
 have he:=@run_callFunc_extern Tryz.prog 8 _ Extern.MathFloatBits.float64bits Tryz.func8 (by kernel_rfl) (by kernel_rfl) (by kernel_rfl) (by kernel_rfl);have hb:=fun(b:Nat) (W:World)=>show(Extern.MathFloatBits.float64bits #[.float .f64 b]).run Tryz.prog W= .ok (nU b) W from rfl;have HF:=qd (fun(W:World)=>pJ x W);go_in;go_wp2_with fail;refine(HF.out _).mono ?_;rintro e w1 ⟨rfl,rfl⟩;go_wp2;go_ret;exact⟨rfl,rfl⟩
theorem vk (x:Nat)(hx:x<18446744073709551616)(w:World):Calls Tryz.prog 35 #[.float .f64 x] w fun e w'=>e= .returned (.int .u64 (aA x:Int))∧w=w':=by
 have HB:=qd (fun(W:World)=>GX x W);have HF:=qd (fun(W:World)=>pJ x W);have HS:=qd (fun(W:World)=>MI (aQ x) (ko hx) W);have hl:=ko hx;have hsl:=uZ hl
 cases hs:jX (aQ x)with
 |true=>
  rw[hs]at HS;have HV:=qd (show aA x=18446744073709551615-aQ x from by unfold aA;rw[if_pos hs]);clear hsl hs;go_in;go_wp2_with fail;refine(HB.out _).mono ?_;rintro e w1 ⟨rfl,rfl⟩;go_wp2_with fail;refine(HF.out _).mono ?_;rintro e w1 ⟨rfl,rfl⟩;go_wp2_with fail;refine(HS.out _).mono ?_;rintro e w1 ⟨rfl,rfl⟩;go_wp2;go_ret;exact⟨ret_val (by rw[HV.out];exact congrArg (Value.int .u64) (uP _ hl)),rfl⟩
 |false=>
  rw[hs]at HS
  have hlt:aQ x<9223372036854775808:=by
   have:=mt hsl.2 (by rw[hs];simp);omega
  have HV:=qd (show aA x=aQ x+9223372036854775808 from by unfold aA;rw[if_neg (by rw[hs];simp)]);clear hsl hs;go_in;go_wp2_with fail;refine(HB.out _).mono ?_;rintro e w1 ⟨rfl,rfl⟩;go_wp2_with fail;refine(HF.out _).mono ?_;rintro e w1 ⟨rfl,rfl⟩;go_wp2_with fail;refine(HS.out _).mono ?_;rintro e w1 ⟨rfl,rfl⟩;go_wp2;go_ret;exact⟨ret_val (by rw[HV.out];exact congrArg (Value.int .u64) (abT hlt)),rfl⟩
theorem yM (x:Nat)(hx:x<18446744073709551616)(w:World):Calls Tryz.prog 19 #[.float .f64 x] w fun e w'=>e= .returned (.int .u64 (iP (aA x):Int))∧w=w':=by
 have HK:=qd (fun(W:World)=>vk x hx W);have HV:=qd (show(iP (aA x):Int)=IntKind.u64.wrap ((aA x:Int)*11400714819323198485)from by unfold iP;rw[IntKind.wrap_u64];omega);go_in;go_wp2_with fail;refine(HK.out _).mono ?_;rintro e w1 ⟨rfl,rfl⟩;go_wp2;go_ret;exact⟨ret_val (by rw[HV.out];rfl),rfl⟩
theorem GY:IntKind.u64.wrap ((x:Int)*2)/9007199254740992=((rung x/4503599627370496:Nat):Int):=by
 rw[IntKind.wrap_u64];unfold rung;omega
theorem Qy:IntKind.u64.wrap ((x:Int)*4096)=((x % 4503599627370496*4096:Nat):Int):=by
 rw[IntKind.wrap_u64];omega
theorem ML:IntKind.u64.wrap ((x:Int)*2)=((rung x*2:Nat):Int):=by
 rw[IntKind.wrap_u64];unfold rung;omega
theorem CF:iQ x=true↔rung x/4503599627370496=2047∧¬x % 4503599627370496=0:=by
 unfold iQ rung;rw[decide_eq_true_iff];omega
theorem Uw (x:Nat)(w:World):Calls Tryz.prog 58 #[nU x] w fun e w'=>e= .returned (.bool (iQ x))∧w=w':=by
 by_cases c1:rung x/4503599627370496=2047
 ·have e1:(IntKind.u64.wrap ((x:Int)*2)/9007199254740992==2047)=true:=by rw[GY,c1];rfl
  by_cases c2:x % 4503599627370496=0
  ·have e2:(IntKind.u64.wrap ((x:Int)*4096) !=0)=false:=by rw[Qy,c2];rfl
   have hV:iQ x=false:=by rw[Bool.eq_false_iff];intro h;have:=CF.1 h;omega
   rw[hV];go_in;go_wp2;go_ret;exact⟨by simp,rfl⟩
  ·have e2:(IntKind.u64.wrap ((x:Int)*4096) !=0)=true:=by rw[Qy];simp;omega
   have hV:iQ x=true:=by exact CF.2 ⟨c1,c2⟩
   rw[hV];go_in;go_wp2;go_ret;exact⟨by simp,rfl⟩
 ·have e1:(IntKind.u64.wrap ((x:Int)*2)/9007199254740992==2047)=false:=by rw[GY];simp;omega
  have hV:iQ x=false:=by rw[Bool.eq_false_iff];intro h;have:=CF.1 h;omega
  rw[hV];go_in;go_wp2;go_ret;exact⟨by simp,rfl⟩
theorem AU (x:Nat)(_hx:x<18446744073709551616)(w:World):Calls Tryz.prog 38 #[nU x] w fun e w'=>e= .returned (.int .u64 (aQ x:Int))∧w=w':=by
 have HN:=qd (fun(W:World)=>Uw x W);cases hn:iQ x
 case' true=>
  rw[hn]at HN
  have hV:aQ x=9221120237041090560:=by unfold aQ;simp[hn]
 case' false=>
  rw[hn]at HN;by_cases c:rung x=0
  focus
   have e1:(IntKind.u64.wrap ((x:Int)*2)==0)=true:=by rw[ML,c];rfl
   have hV:aQ x=0:=by unfold aQ;simp[hn,c]
  rotate_left
  focus
   have e1:(IntKind.u64.wrap ((x:Int)*2)==0)=false:=by rw[ML];simp;omega
   have hV:aQ x=x:=by unfold aQ;simp[hn,c]
 all_goals
  rw[hV];go_in;go_wp2_with fail;refine(HN.out _).mono ?_;rintro e w1 ⟨rfl,rfl⟩;go_wp2;go_ret;exact⟨rfl,rfl⟩
end Go.Proofs.YtnfjjbpmhcbelaaGreatDoor

/-! amblerref27: Key; amblerlaw28: form, exact. No statement of the claim. -/
namespace Go.Proofs.YtnfjjbpmhcbelaaGreatDoor
set_option maxRecDepth 100000
set_option maxHeartbeats 4000000
open Go Go.RowKit kM dI ru
theorem aaT {x:Nat}(hx:x<18446744073709551616):((x:Int)/9223372036854775808==1)=jX x:=by
 have h:=uZ hx;rw[Bool.eq_iff_iff,h,beq_iff_eq];omega
theorem mX (x:Nat)(hx:x<18446744073709551616)(w:World):Calls Tryz.prog 20 #[nU x] w fun e w'=>e= .returned (.int .u64 (aA x:Int))∧w=w':=by
 have HF:=qd (fun(W:World)=>AU x hx W);have hl:=ko hx;have hd:=aaT hl;have hsl:=uZ hl;cases hs:jX (aQ x)
 case' true=>
  rw[hs]at hd;have HV:=qd (show(18446744073709551615:Int)-(aQ x:Int)=(aA x:Int)from by unfold aA;rw[if_pos hs];omega)
 case' false=>
  have hlt:aQ x<9223372036854775808:=by
   have:=mt hsl.2 (by rw[hs];simp);omega
  rw[hs]at hd;have HV:=qd (show(aQ x:Int)+9223372036854775808=(aA x:Int)from by unfold aA;rw[if_neg (by rw[hs];simp)];omega)
 all_goals
  clear hsl hs;go_in;go_wp2_with fail;refine(HF.out _).mono ?_;rintro e w1 ⟨rfl,rfl⟩;go_wp2;go_ret;exact⟨ret_val (congrArg (Value.int .u64) HV.out),rfl⟩
theorem AV (x:Nat)(hx:x<18446744073709551616)(w:World):Calls Tryz.prog 12 #[.float .f64 x] w fun e w'=>e= .returned (.float .f64 (aQ x))∧w=w':=by
 have HF:=qd (fun(W:World)=>AU x hx W);have he:=@run_callFunc_extern Tryz.prog 8 _ Extern.MathFloatBits.float64bits Tryz.func8 (by kernel_rfl) (by kernel_rfl) (by kernel_rfl) (by kernel_rfl);have hb:=fun(b:Nat) (W:World)=>show(Extern.MathFloatBits.float64bits #[.float .f64 b]).run Tryz.prog W= .ok (nU b) W from rfl;have hxx:=@run_callFunc_extern Tryz.prog 37 _ Extern.MathFloatBits.float64frombits Tryz.func37 (by kernel_rfl) (by kernel_rfl) (by kernel_rfl) (by kernel_rfl);have GZ:=fun(n:Int) (W:World)=>show(Extern.MathFloatBits.float64frombits #[.int .u64 n]).run Tryz.prog W= .ok (.float .f64 n.toNat) W from rfl;go_in;go_wp2_with fail;refine(HF.out _).mono ?_;rintro e w1 ⟨rfl,rfl⟩;go_wp2;go_ret;exact⟨rfl,rfl⟩
theorem om (x:Nat)(w:World):Calls Tryz.prog 14 #[.float .f64 x,.float .f64 x] w fun e w'=>e= .returned (.bool true)∧w=w':=by
 have he:=@run_callFunc_extern Tryz.prog 8 _ Extern.MathFloatBits.float64bits Tryz.func8 (by kernel_rfl) (by kernel_rfl) (by kernel_rfl) (by kernel_rfl);have hb:=fun(b:Nat) (W:World)=>show(Extern.MathFloatBits.float64bits #[.float .f64 b]).run Tryz.prog W= .ok (nU b) W from rfl;go_in;go_wp2;go_ret;exact⟨rfl,rfl⟩
end Go.Proofs.YtnfjjbpmhcbelaaGreatDoor
