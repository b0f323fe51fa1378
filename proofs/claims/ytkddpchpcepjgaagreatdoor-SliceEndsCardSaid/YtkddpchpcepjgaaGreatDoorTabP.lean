/- What the program reckons with words of lanes. No program in sight. -/
import Derived.Test.YtkddpchpcepjgaaGreatDoorLaneP
import Derived.Test.YtkddpchpcepjgaaGreatDoorProg
import Derived.Tactics
import Derived.Tactics2
import Derived.WalkKit
import Derived.WalkSpells
import Derived.WalkLawsBesides
import Derived.KernelRfl
import Derived.Outline
import Derived.IntWalk
import Derived.BigQuiet
import Derived.Deep.QuietTactic
namespace Go.Proofs.YtkddpchpcepjgaaGreatDoor.cu
set_option maxRecDepth 100000
set_option maxHeartbeats 400000
open Go Go.RowKit cu
theorem zg:type_of% @List.getElem?_eq_getElem:=@List.getElem?_eq_getElem
theorem zv:type_of% @List.getD_eq_getElem?_getD:=@List.getD_eq_getElem?_getD
theorem zE:type_of% @List.mem_of_getElem?:=@List.mem_of_getElem?
theorem qe:type_of% @List.append_assoc:=@List.append_assoc
theorem qq:type_of% @List.length_set:=@List.length_set
theorem qr:type_of% @List.getElem?_set:=@List.getElem?_set
theorem QR:type_of% @List.any_eq_true:=@List.any_eq_true
theorem yd:type_of% @Bool.false_eq_true:=@Bool.false_eq_true
theorem yl:type_of% @Option.map_eq_some_iff:=@Option.map_eq_some_iff
theorem yo:type_of% @List.getElem?_eq_none:=@List.getElem?_eq_none
theorem YY:type_of% @List.perm_append_comm:=@List.perm_append_comm
theorem jz:type_of% @List.mem_flatMap:=@List.mem_flatMap
theorem JP:type_of% @List.take_append_drop:=@List.take_append_drop
theorem xa:type_of% @Nat.pow_le_pow_right:=@Nat.pow_le_pow_right
theorem xe:type_of% @List.findIdx?_eq_some_iff_getElem:=@List.findIdx?_eq_some_iff_getElem
theorem xj:type_of% @beq_eq_false_iff_ne:=@beq_eq_false_iff_ne
theorem xt:type_of% @Nat.mul_le_mul_right:=@Nat.mul_le_mul_right
theorem xx:type_of% @if_false:=@if_false
theorem xF:type_of% @List.countP_cons:=@List.countP_cons
theorem x7:type_of% @beq_iff_eq:=@beq_iff_eq
theorem Xs:type_of% @decide_eq_true:=@decide_eq_true
theorem kb:type_of% @decide_eq_false:=@decide_eq_false
theorem kc:type_of% @List.mem_or_eq_of_mem_set:=@List.mem_or_eq_of_mem_set
theorem ke:type_of% @List.drop_eq_getElem_cons:=@List.drop_eq_getElem_cons
theorem kA:type_of% @Nat.mod_lt:=@Nat.mod_lt
theorem k7:type_of% @List.findIdx?_eq_none_iff:=@List.findIdx?_eq_none_iff
theorem va:type_of% @List.mem_range:=@List.mem_range
theorem vm:type_of% @Int.toNat_natCast:=@Int.toNat_natCast
theorem vt:type_of% @Nat.mod_eq_of_lt:=@Nat.mod_eq_of_lt
variable {b i : Nat} {l : List Nat}
theorem uI (a b:Nat)(ha:a<18446744073709551616)(hb:b<18446744073709551616):
  bits .andNot .u64 (a:Int) (b:Int)=((a &&& (18446744073709551615-b):Nat):Int):=by
 have hx:a &&& (18446744073709551615-b)<2^64:=Nat.and_lt_two_pow _ (by omega)
 have h1:(BitVec.ofInt 64 (a:Int)).toNat=a:=by
  rw[BitVec.ofInt_natCast,BitVec.toNat_ofNat];exact vt (by omega)
 have h2:(BitVec.ofInt 64 (b:Int)).toNat=b:=by
  rw[BitVec.ofInt_natCast,BitVec.toNat_ofNat];exact vt (by omega)
 show IntKind.u64.wrap ((BitVec.ofInt 64 (a:Int) &&& ~~~ BitVec.ofInt 64 (b:Int)).toNat:Int)=_;rw[BitVec.toNat_and,BitVec.toNat_not,h1,h2,IntKind.wrap_u64]
 have:(2:Nat)^64-1-b=18446744073709551615-b:=by omega
 rw[this];omega
theorem Zp (a:Nat)(ha:a<18446744073709551616):18446744073709551615^^^a=18446744073709551615-a:=by
 have h1:(BitVec.ofNat 64 a).toNat=a:=by rw[BitVec.toNat_ofNat];exact vt (by omega)
 have h2:=congrArg BitVec.toNat (BitVec.not_def (x:=BitVec.ofNat 64 a));rw[BitVec.toNat_xor,BitVec.toNat_not,BitVec.toNat_allOnes,h1]at h2
 have:(2:Nat)^64-1=18446744073709551615:=by decide
 rw[this]at h2;exact h2.symm
theorem acJ:IntKind.u64.max=((18446744073709551615:Nat):Int):=by decide
theorem FQ (a:Nat)(ha:a<18446744073709551616):bits .xor .u64 IntKind.u64.max (a:Int)=((18446744073709551615-a:Nat):Int):=by
 rw[acJ,bits_xor_u64_nat _ _ (by decide) ha,Zp a ha]
theorem yD {n:Nat}(_h:n<18446744073709551616):IntKind.u64.wrap (n:Int)=(n:Int):=by rw[IntKind.wrap_u64];omega
def uY (b:Nat):Nat:=w8 (List.replicate 8 b)
theorem acK (h:b<256):uY b<18446744073709551616:=rP (rQ h) (by simp)
theorem Ug (_:b<256):(72340172838076673:Int)*(b:Int)=((uY b:Nat):Int):=by
 unfold uY;rw[adQ];omega
theorem Zq (hb:Bytes l)(hl:l.length=8):bits .and .u64 ((w8 l:Nat):Int) 9259542123273814144=((w8 (l.map eZ):Nat):Int):=by
 rw[<-acI hb hl];exact bits_and_u64_nat _ _ (rP hb hl) (by decide)
theorem Wm (hb:Bytes l)(hl:l.length=8)(h8:b<256):
  bits .and .u64 (bits .xor .u64 IntKind.u64.max (bits .or .u64 (IntKind.u64.wrap (bits .andNot .u64 (bits .xor .u64 ((w8 l:Nat):Int) ((uY b:Nat):Int)) 9259542123273814144+9187201950435737471)) (bits .xor .u64 ((w8 l:Nat):Int) ((uY b:Nat):Int)))) 9259542123273814144=
   ((w8 (l.map (l9 b)):Nat):Int):=by
 have afZ:=rP hb hl;have hr:=acK h8;rw[bits_xor_u64_nat _ _ afZ hr]
 have hx:w8 l^^^uY b<18446744073709551616:=by
  have:=Nat.xor_lt_two_pow (n:=64) (x:=w8 l) (y:=uY b) (by omega) (by omega);omega
 obtain⟨x,hxe⟩:∃x,x=w8 l^^^uY b:=⟨_,rfl⟩;rw[<-hxe]at hx|-;have e1:bits .andNot .u64 (x:Int) 9259542123273814144=((x &&& 9187201950435737471:Nat):Int):=uI x 9259542123273814144 hx (by decide);rw[e1];have hand:x &&& 9187201950435737471<=9187201950435737471:=Nat.and_le_right
 have e2:((x &&& 9187201950435737471:Nat):Int)+9187201950435737471=(((x &&& 9187201950435737471)+9187201950435737471:Nat):Int):=by omega
 rw[e2,yD (by omega),bits_or_u64_nat _ _ (by omega) hx]
 have hor:((x &&& 9187201950435737471)+9187201950435737471)|||x<18446744073709551616:=by
  have:=Nat.or_lt_two_pow (n:=64) (x:=(x &&& 9187201950435737471)+9187201950435737471) (y:=x) (by omega) (by omega);omega
 rw[FQ _ hor];have e3:=bits_and_u64_nat (18446744073709551615-(((x &&& 9187201950435737471)+9187201950435737471)|||x)) 9259542123273814144 (by omega) (by decide);rw[<-Zo hb hl b h8];unfold uY at hxe;rw[<-hxe];exact e3
theorem Zr (hb:Bytes l)(i:Nat):((w8 l:Nat):Int)/2^(8*i) % 256=((l.getD i 0:Nat):Int):=by
 rw[<-Sm l i hb]
 have:(2:Nat)^(8*i)=256^i:=by rw[Nat.pow_mul]
 have e:((2:Int)^(8*i))=((256^i:Nat):Int):=by rw[<-this];simp
 rw[e];omega
theorem pI {a:Nat}(h:a<256):a &&& 255=a:=by
 have:=Nat.and_two_pow_sub_one_eq_mod a 8;rw[show(255:Nat)=2^8-1 by decide,this];omega
theorem eight (hl:l.length=8):∃a0 a1 a2 a3 a4 a5 a6 a7,l=[a0,a1,a2,a3,a4,a5,a6,a7]:=by
 match l,hl with
 | [a0,a1,a2,a3,a4,a5,a6,a7],_=>exact⟨a0,a1,a2,a3,a4,a5,a6,a7,rfl⟩
theorem Zt (hb:Bytes l)(hl:l.length=8)(hi:i<8)(h8:b<256):
  (w8 l &&& (18446744073709551615-255*256^i))|||(b*256^i)=w8 (l.set i b):=by
 have hz:∀x,x*256^i=w8 ((List.replicate 8 0).set i x):=by
  intro x
  have:i=0\/i=1\/i=2\/i=3\/i=4\/i=5\/i=6\/i=7:=by omega
  rcases this with rfl|rfl|rfl|rfl|rfl|rfl|rfl|rfl<;>simp[w8,List.replicate]<;>omega
 have hB0:∀x,x<256->Bytes ((List.replicate 8 0).set i x):=λx hx y hy=>by
  rcases kc hy with hy|rfl
  ·rw[(vd.1 hy).2];omega
  ·exact hx
 have hn:18446744073709551615-255*256^i=w8 (((List.replicate 8 0).set i 255).map λa=>255-a):=by
  rw[Dw _ (hB0 255 (by omega)),hz 255];simp
 have Ld:Bytes (((List.replicate 8 0).set i 255).map λa=>255-a):=λy hy=>by
  obtain⟨a,_,rfl⟩:=Z3.1 hy;omega
 rw[hn,hz b,AQ l _ (by simp[hl]) hb Ld];have hBa:Bytes (List.zipWith (· &&& ·) l (((List.replicate 8 0).set i 255).map λa=>255-a)):=Lb (λa b ha _=>Nat.lt_of_le_of_lt Nat.and_le_left ha) hb Ld;rw[Uf _ _ (by simp[hl]) hBa (hB0 b h8)];congr 1;obtain⟨a0,a1,a2,a3,a4,a5,a6,a7,rfl⟩:=eight hl;have b0:=pI (hb a0 (by simp));have b1:=pI (hb a1 (by simp));have b2:=pI (hb a2 (by simp));have b3:=pI (hb a3 (by simp));have b4:=pI (hb a4 (by simp));have b5:=pI (hb a5 (by simp));have b6:=pI (hb a6 (by simp));have b7:=pI (hb a7 (by simp))
 have:i=0\/i=1\/i=2\/i=3\/i=4\/i=5\/i=6\/i=7:=by omega
 rcases this with rfl|rfl|rfl|rfl|rfl|rfl|rfl|rfl<;>simp[List.replicate,b0,b1,b2,b3,b4,b5,b6,b7]
theorem Zu (hb:Bytes l)(hl:l.length=8)(hi:i<8)(h8:b<256):
  bits .or .u64 (bits .andNot .u64 ((w8 l:Nat):Int) (IntKind.u64.wrap (255*2^(8*i)))) (IntKind.u64.wrap ((b:Int)*2^(8*i)))=((w8 (l.set i b):Nat):Int):=by
 have e:((2:Int)^(8*i))=((256^i:Nat):Int):=by
  have:(2:Nat)^(8*i)=256^i:=by rw[Nat.pow_mul]
  rw[<-this];simp
 have hp:256^i<=256^7:=xa (by omega) (by omega)
 have h7:(256:Nat)^7=72057594037927936:=by decide
 rw[h7]at hp;have hbp:b*256^i<=255*256^i:=xt _ (by omega)
 have e1:(255:Int)*2^(8*i)=((255*256^i:Nat):Int):=by rw[e];simp
 have e2:(b:Int)*2^(8*i)=((b*256^i:Nat):Int):=by rw[e];simp
 rw[e1,e2,yD (by omega),yD (by omega),uI _ _ (rP hb hl) (by omega)];have hand:w8 l &&& (18446744073709551615-255*256^i)<18446744073709551616:=Nat.lt_of_le_of_lt Nat.and_le_left (rP hb hl);rw[bits_or_u64_nat _ _ hand (by omega),Zt hb hl hi h8]
theorem AR:∀(l:List Nat),w8 l=0↔∀b∈l,b=0
 | []=>by simp[w8]
 |a::t=>by
  have:=AR t;simp only[w8,zt,forall_eq_or_imp];rw[<-this];omega
def Marks (l:List Nat):Prop:=∀b∈l,b=0\/b=128
theorem Marks.bytes (h:Marks l):Bytes l:=λb hb=>by rcases h b hb with rfl|rfl<;>omega
theorem rR (l:List Nat):Marks (l.map eZ):=λb hb=>by
 obtain⟨a,_,rfl⟩:=Z3.1 hb
 unfold eZ;split<;>simp
theorem GQ (b:Nat)(l:List Nat):Marks (l.map (l9 b)):=λx hx=>by
 obtain⟨a,_,rfl⟩:=Z3.1 hx
 unfold l9;split<;>simp
theorem wh (h:Marks l):l.map eZ=l:=by
 conv=>rhs;rw[<-List.map_id l]
 exact jx λb hb=>by rcases h b hb with rfl|rfl<;>rfl
def firstM (l:List Nat):Option Nat:=l.findIdx? (·==128)
def nG:List Nat->List Nat
 | []=> []
 |b::t=>if b=128 then 0::t else b::nG t
theorem Dx:∀l,(nG l).length=l.length
 | []=>rfl
 |b::t=>by unfold nG;split<;>simp[Dx t]
theorem IK:∀{l:List Nat},Marks l->Marks (nG l)
 | [],h=>h
 |b::t,h=>by
  have ht:Marks t:=λx hx=>h x (by simp[hx]);unfold nG;split
  ·intro x hx;rcases zt.1 hx with rfl|hx
   ·exact .inl rfl
   ·exact ht x hx
  ·intro x hx;rcases zt.1 hx with rfl|hx
   ·exact h x (by simp)
   ·exact IK ht x hx
theorem Oo:∀{l:List Nat},Marks l->w8 l≠0->w8 l &&& (w8 l-1)=w8 (nG l)
 | [],_,h=>absurd rfl h
 |b::t,h,h0=>by
  have ht:Marks t:=λx hx=>h x (by simp[hx]);unfold nG;rcases h b (by simp)with rfl|rfl
  ·rw[if_neg (by omega)];simp only[w8]at h0|-
   have hpos:w8 t≠0:=by omega
   have e:0+256*w8 t-1=255+256*(w8 t-1):=by omega
   rw[e,and_cons _ _ (by omega) (by omega),Oo ht hpos];rfl
  ·rw[if_pos rfl];simp only[w8]at h0|-
   have e:128+256*w8 t-1=127+256*w8 t:=by omega
   rw[e,and_cons _ _ (by omega) (by omega),Nat.and_self];rfl
theorem Zv (h:Marks l)(hl:l.length=8)(h0:w8 l≠0):bits .and .u64 ((w8 l:Nat):Int) (IntKind.u64.wrap (((w8 l:Nat):Int)-1))=((w8 (nG l):Nat):Int):=by
 have h64:=rP h.bytes hl
 have e:((w8 l:Nat):Int)-1=((w8 l-1:Nat):Int):=by omega
 rw[e,yD (by omega),bits_and_u64_nat _ _ h64 (by omega),Oo h h0]
theorem GR (h:firstM l=some i):i<l.length:=(xe.1 h).1
theorem qC (h:Marks l):w8 l=0↔firstM l=none:=by
 rw[AR];unfold firstM;rw[k7];constructor
 ·intro h1 x hx;rw[h1 x hx];rfl
 ·intro h1 x hx;rcases h x hx with h2|h2
  ·exact h2
  ·have:=h1 x hx;rw[h2]at this;simp at this
end Go.Proofs.YtkddpchpcepjgaaGreatDoor.cu

/-! The least marked lane, by the table of bits. No program in sight. -/
namespace Go.Proofs.YtkddpchpcepjgaaGreatDoor.cu
set_option maxRecDepth 100000
set_option maxHeartbeats 400000
open Go Go.RowKit cu
variable {l : List Nat} {i : Nat}
theorem and_not_self:∀(l:List Nat),Bytes l->w8 l &&& (256^l.length-1-w8 l)=0
 |l,h=>by
  rw[<-Dw l h]
  have hB:Bytes (l.map λa=>255-a):=λy hy=>by
   obtain⟨a,_,rfl⟩:=Z3.1 hy;omega
  rw[AQ l _ (by simp) h hB,AR]
  have H:∀a:Fin 256,a.val &&& (255-a.val)=0:=by decide+kernel
  have:∀(l:List Nat),Bytes l->∀b∈List.zipWith (· &&& ·) l (l.map λa=>255-a),b=0:=by
   intro l
   induction l with
   |nil=>intro _ b hb;simp at hb
   |cons a t ih=>
    intro hl b hb;rw[ye,xz]at hb;rcases zt.1 hb with rfl|hb
    ·exact H ⟨a,hl.head⟩
    ·exact ih hl.tail b hb
  exact this l h
theorem Sn:∀{l:List Nat} {i:Nat},Marks l->firstM l=some i->w8 l &&& (256^l.length-w8 l)=128*256^i
 | [],_,_,h=>by simp[firstM]at h
 |b::t,i,hm,h=>by
  have ht:Marks t:=λx hx=>hm x (by simp[hx]);have h1:=Od t ht.bytes;unfold firstM at h;rw[List.findIdx?_cons]at h;rcases hm b (by simp)with rfl|rfl
  ·simp only[show((0:Nat)==128)=false from rfl,yd,xx]at h;obtain⟨k,hk,rfl⟩:=yl.1 h;have ih:=Sn ht hk;simp only[w8,ZS,xd]
   have e:256^t.length*256-(0+256*w8 t)=0+256*(256^t.length-w8 t):=by omega
   rw[e,and_cons _ _ (by omega) (by omega),ih];simp;omega
  ·simp only[show((128:Nat)==128)=true from rfl,if_true]at h
   injection h with h
   subst h;simp only[w8,ZS,xd]
   have e:256^t.length*256-(128+256*w8 t)=128+256*(256^t.length-1-w8 t):=by omega
   rw[e,and_cons _ _ (by omega) (by omega),and_not_self t ht.bytes];rfl
def qD (i:Nat):Nat:=128*256^i*285870213051353865 % 18446744073709551616/288230376151711744
theorem Sq (hm:Marks l)(hl:l.length=8)(h:firstM l=some i):
  (IntKind.u64.wrap (bits .and .u64 ((w8 l:Nat):Int) (IntKind.u64.wrap (-((w8 l:Nat):Int)))*285870213051353865)/288230376151711744).toNat=qD i:=by
 have h64:=rP hm.bytes hl
 have h0:w8 l≠0:=λh0=>by rw[(qC hm).1 h0]at h;cases h
 have hn:IntKind.u64.wrap (-((w8 l:Nat):Int))=((18446744073709551616-w8 l:Nat):Int):=by rw[IntKind.wrap_u64];omega
 have e:=Sn hm h;rw[hl,show(256:Nat)^8=18446744073709551616 by decide]at e;rw[hn,bits_and_u64_nat _ _ h64 (by omega),e,IntKind.wrap_u64];unfold qD
 have e2:((128*256^i:Nat):Int)*285870213051353865 % 18446744073709551616/288230376151711744=((128*256^i*285870213051353865 % 18446744073709551616/288230376151711744:Nat):Int):=by
  simp
 rw[e2,vm]
theorem Zw (i:Nat):qD i<64:=by unfold qD;omega
theorem Sr (hm:Marks l)(hl:l.length=8)(h:firstM l=some i):
  IntKind.u64.wrap (bits .and .u64 ((w8 l:Nat):Int) (IntKind.u64.wrap (-((w8 l:Nat):Int)))*285870213051353865)/288230376151711744=((qD i:Nat):Int):=by
 rw[<-Sq hm hl h]
 have:0<=IntKind.u64.wrap (bits .and .u64 ((w8 l:Nat):Int) (IntKind.u64.wrap (-((w8 l:Nat):Int)))*285870213051353865)/288230376151711744:=by rw[IntKind.wrap_u64];omega
 omega
theorem IL:∀{l:List Nat} {i:Nat} (s:Nat),firstM l=some i->dD s l=(s+i)::dD s (nG l)
 | [],_,_,h=>by simp[firstM]at h
 |b::t,i,s,h=>by
  unfold firstM at h;rw[List.findIdx?_cons]at h;by_cases hb:b=128
  ·subst hb;simp only[show((128:Nat)==128)=true from rfl,if_true]at h
   injection h with h
   subst h;simp[dD,nG]
  ·rw[if_neg (by simpa using hb)]at h;obtain⟨k,hk,rfl⟩:=yl.1 h;have ih:=IL (s+1) hk;simp only[dD,nG,if_neg hb];rw[ih,show s+1+k=s+(k+1) by omega]
theorem IQ:∀{l:List Nat} (s:Nat),firstM l=none->dD s l=[]
 | [],_,_=>rfl
 |b::t,s,h=>by
  unfold firstM at h;rw[List.findIdx?_cons]at h;by_cases hb:b=128
  ·rw[if_pos (by simpa using hb)]at h;cases h
  ·rw[if_neg (by simpa using hb)]at h;have hk:firstM t=none:=Option.map_eq_none_iff.1 h;simp only[dD,if_neg hb];exact IQ (s+1) hk
theorem Dy:∀(l:List Nat) (s:Nat),(dD s l).length<=l.length
 | [],_=>zb _
 |b::t,s=>by
  have:=Dy t (s+1);unfold dD
  split<;>simp<;>omega
theorem Sv:∀{l:List Nat},Marks l->w8 l≠0->w8 (nG l)<w8 l
 | [],_,h=>absurd rfl h
 |b::t,h,h0=>by
  have ht:Marks t:=λx hx=>h x (by simp[hx]);rcases h b (by simp)with rfl|rfl
  ·simp only[w8,nG,show((0:Nat)=128)=False by simp,xx]at h0|-;have:=Sv ht (by omega);omega
  ·simp[w8,nG]
theorem Ru (h:Marks l)(h0:w8 l≠0):∃i,firstM l=some i:=by
 cases hf:firstM l with
 |some i=>exact⟨i,rfl⟩
 |none=>exact absurd ((qC h).2 hf) h0
end Go.Proofs.YtkddpchpcepjgaaGreatDoor.cu

/-! Words of eight lanes, and control words, by their contracts. -/
namespace Go.Proofs.YtkddpchpcepjgaaGreatDoor
set_option maxRecDepth 100000
set_option maxHeartbeats 400000
open Go Go.RowKit cu
theorem AU {a b:Int}(h:a=b):Ending.returned (.int .u64 a)= .returned (.int .u64 b):=by rw[h]
theorem FR (b:Nat)(hb:b<256)(w:World):Calls Tryz.prog 227 #[.int .u8 (b:Int)] w λe w'=>e= .returned (.int .u64 ((uY b:Nat):Int))/\w=w':=by
 have HW:=qd (Ug hb);go_in;go_wp2;go_ret;exact⟨AU HW.o,rfl⟩
theorem acL (i:Nat)(w:World):Calls Tryz.prog 247 #[nI i] w λe w'=>e= .returned (.bool (decide (i<8)))/\w=w':=by
 by_cases h:i<8
 ·have h':(i:Int)<8:=by omega
  have HD:=qd (Xs h);go_in;go_wp2;go_ret;exact⟨jw (by first|exact HD.o.symm|rfl|simp[HD.o]),rfl⟩
 ·have h':¬(i:Int)<8:=by omega
  have HD:=qd (show decide (i<8)=false from kb h);go_in;go_wp2;go_ret;exact⟨jw (by first|exact HD.o.symm|rfl|simp[HD.o]),rfl⟩
theorem FT (i:Nat)(hi:i<8)(w:World):Calls Tryz.prog 247 #[nI i] w λe w'=>e= .returned (.bool true)/\w=w':=by
 have:=acL i w;rw[Xs hi]at this;exact this
theorem wm (l:List Nat)(hl:l.length=8)(hb:Bytes l)(w:World):Calls Tryz.prog 228 #[.int .u64 ((w8 l:Nat):Int)] w λe w'=>e= .returned (.int .u64 ((w8 (l.map eZ):Nat):Int))/\w=w':=by
 have HV:=qd (Zq hb hl);clear hl hb;go_in;go_wp2;go_ret;exact⟨AU HV.o,rfl⟩
theorem IU (l:List Nat)(hl:l.length=8)(hb:Bytes l)(b:Nat)(kF:b<256)(w:World):Calls Tryz.prog 231 #[.int .u64 ((w8 l:Nat):Int),.int .u8 (b:Int)] w λe w'=>e= .returned (.int .u64 ((w8 (l.map (l9 b)):Nat):Int))/\w=w':=by
 have HR:=qd (λW=>FR b kF W);have HV:=qd (Wm hb hl kF);clear hl hb;go_in;go_wp2_with fail;refine(HR.o _).mono ?_;rintro e w1 ⟨rfl,rfl⟩;go_wp2;go_ret;exact⟨AU HV.o,rfl⟩
theorem Wn (l:List Nat)(hb:Bytes l)(i:Nat)(hi:i<8)(w:World):Calls Tryz.prog 232 #[.int .u64 ((w8 l:Nat):Int),nI i] w λe w'=>e= .returned (.tuple #[.int .u8 ((l.getD i 0:Nat):Int),.bool true])/\w=w':=by
 have HR:=qd (λW=>FT i hi W);have HV:=qd (Zr hb i);clear hb;go_in;go_wp2_with fail;refine(HR.o _).mono ?_;rintro e w1 ⟨rfl,rfl⟩;go_wp2;rw[HV.o];go_ret2;exact⟨rfl,rfl⟩
theorem Wo (l:List Nat)(hl:l.length=8)(hb:Bytes l)(i b:Nat)(hi:i<8)(kF:b<256)(w:World):Calls Tryz.prog 249 #[.int .u64 ((w8 l:Nat):Int),nI i,.int .u8 (b:Int)] w λe w'=>e= .returned (.int .u64 ((w8 (l.set i b):Nat):Int))/\∃n,w'=w.drewN n:=by
 have HR:=qd (λW=>FT i hi W);have HV:=qd (Zu hb hl hi kF);clear hl hb;go_in;go_wp2_with fail;refine(HR.o _).mono ?_;rintro e w1 ⟨rfl,rfl⟩;go_wp2;go_quiet (fail);go_wp2;go_ret;exact⟨AU HV.o,⟨_,rfl⟩⟩
def gW (w:World):Prop:=∀i,i<8->w.cell? ⟨16,qD i,none⟩=some (.int .u8 ((8*i+7:Nat):Int))
theorem acM (l:List Nat)(hl:l.length=8)(hm:Marks l)(i:Nat)(hi:firstM l=some i)(w:World)(hT:gW w):
  Calls Tryz.prog 229 #[.int .u64 ((w8 l:Nat):Int)] w λe w'=>e= .returned (.int .i64 ((8*i+7:Nat):Int))/\w=w':=by
 have h8:i<8:=by have:=GR hi;omega
 have hT1:=hT i h8
 have h0:(((w8 l:Nat):Int)==0)=false:=by
  rw[xj];intro h0;rw[(qC hm).1 (by omega)]at hi;cases hi
 have hT':w.cell? ⟨16,(IntKind.u64.wrap (bits .and .u64 ((w8 l:Nat):Int) (IntKind.u64.wrap (-((w8 l:Nat):Int)))*285870213051353865)/288230376151711744).toNat,none⟩=some (.int .u8 ((8*i+7:Nat):Int)):=by
  rw[Sq hm hl hi];exact hT1
 have hlt:IntKind.u64.wrap (bits .and .u64 ((w8 l:Nat):Int) (IntKind.u64.wrap (-((w8 l:Nat):Int)))*285870213051353865)/288230376151711744<64:=by
  rw[Sr hm hl hi];have:=Zw i;omega
 have hge:0<=IntKind.u64.wrap (bits .and .u64 ((w8 l:Nat):Int) (IntKind.u64.wrap (-((w8 l:Nat):Int)))*285870213051353865)/288230376151711744:=by
  rw[Sr hm hl hi];omega
 clear hT1 hT hm hi hl;go_in;go_wp2;go_ret;exact⟨iE (by omega),rfl⟩
theorem zB (l:List Nat)(hl:l.length=8)(hb:Bytes l)(i:Nat)(hi:firstM (l.map eZ)=some i)(w:World)(hT:gW w):
  Calls Tryz.prog 199 #[.int .u64 ((w8 l:Nat):Int)] w λe w'=>e= .returned (nI i)/\w=w':=by
 have hm:=rR l
 have hlm:(l.map eZ).length=8:=by simpa using hl
 have h0:(((w8 (l.map eZ):Nat):Int)==0)=false:=by
  rw[xj];intro h0;rw[(qC hm).1 (by omega)]at hi;cases hi
 have HT:=qd (acM (l.map eZ) hlm hm i hi w hT);have HH:=qd (wm l hl hb w)
 have hp:(0:Int)<=8*(i:Int)+7:=by omega
 have hp2:8*(i:Int)+7<=1000000:=by have:=GR hi;omega
 clear hl hb hi hm hlm hT;go_in;go_wp2_with fail;refine HH.o.mono ?_;rintro e w1 ⟨rfl,rfl⟩;go_wp2_with fail;refine HT.o.mono ?_;rintro e w1 ⟨rfl,rfl⟩;go_wp2;go_ret;exact⟨iE (by omega),rfl⟩
theorem IV (l:List Nat)(hl:l.length=8)(hb:Bytes l)(hi:firstM (l.map eZ)=none)(w:World):
  Calls Tryz.prog 199 #[.int .u64 ((w8 l:Nat):Int)] w λe w'=>e= .returned (.int .i64 (-1))/\w=w':=by
 have h0:(((w8 (l.map eZ):Nat):Int)==0)=true:=by
  rw[x7,(qC (rR l)).2 hi];rfl
 have HH:=qd (wm l hl hb w);clear hl hb hi;go_in;go_wp2_with fail;refine HH.o.mono ?_;rintro e w1 ⟨rfl,rfl⟩;go_wp2;go_ret;exact⟨rfl,rfl⟩
def uZ:Option Nat->Int
 |some i=>(i:Int)
 |none=> -1
theorem Uh (l:List Nat)(hl:l.length=8)(hb:Bytes l)(w:World)(hT:gW w):
  Calls Tryz.prog 199 #[.int .u64 ((w8 l:Nat):Int)] w λe w'=>e= .returned (.int .i64 (uZ (firstM (l.map eZ))))/\w=w':=by
 cases h:firstM (l.map eZ)with
 |some i=>exact zB l hl hb i h w hT
 |none=>exact IV l hl hb h w
theorem Zx (w:World):Calls Tryz.prog 196 #[] w λe w'=>e= .returned (.int .u64 ((uY 128:Nat):Int))/\w=w':=by
 have HR:=qd (FR 128 (by omega) w);go_in;go_wp2_with fail;refine HR.o.mono ?_;rintro e w1 ⟨rfl,rfl⟩;go_wp2;go_ret;exact⟨rfl,rfl⟩
theorem Oq (b:Nat)(hb:b<256)(h:b<=128\/b=254)(w:World):Calls Tryz.prog 248 #[.int .u8 (b:Int)] w λe w'=>e= .returned (.bool true)/\w=w':=by
 rcases h with h|rfl
 ·have h':(b:Int)<=128:=by omega
  go_in;go_wp2;go_ret;exact⟨rfl,rfl⟩
 ·go_in;go_wp2;go_ret;exact⟨rfl,rfl⟩
theorem GU (l:List Nat)(hb:Bytes l)(i:Nat)(hi:i<8)(w:World):Calls Tryz.prog 206 #[.int .u64 ((w8 l:Nat):Int),nI i] w λe w'=>e= .returned (.int .u8 ((l.getD i 0:Nat):Int))/\w=w':=by
 have HR:=qd (Wn l hb i hi w);clear hb hi;go_in;go_wp2_with fail;refine HR.o.mono ?_;rintro e w1 ⟨rfl,rfl⟩;go_wp2;go_ret;exact⟨rfl,rfl⟩
theorem Zy (l:List Nat)(hl:l.length=8)(hb:Bytes l)(i b:Nat)(hi:i<8)(kF:b<256)(h:b<=128\/b=254)(w:World):Calls Tryz.prog 233 #[.int .u64 ((w8 l:Nat):Int),nI i,.int .u8 (b:Int)] w λe w'=>e= .returned (.tuple #[.int .u64 ((w8 (l.set i b):Nat):Int),.nilIface])/\∃n,w'=w.drewN n:=by
 have HR:=qd (Wo l hl hb i b hi kF w);have HC:=qd (Oq b kF h w)
 have hi':(i:Int)<8:=by omega
 clear hb hi hl kF h;go_in;go_wp2_with fail;refine HC.o.mono ?_;rintro e w1 ⟨rfl,rfl⟩;go_wp2_with fail;refine HR.o.mono ?_;rintro e w1 ⟨rfl,n,rfl⟩;go_wp2;go_ret2;exact⟨rfl,n,rfl⟩
theorem Ui (l:List Nat)(hl:l.length=8)(hb:Bytes l)(b:Nat)(kF:b<128)(w:World):Calls Tryz.prog 202 #[.int .u64 ((w8 l:Nat):Int),.int .u8 (b:Int)] w λe w'=>e= .returned (.int .u64 ((w8 (l.map (l9 b)):Nat):Int))/\w=w':=by
 have HR:=qd (IU l hl hb b (by omega) w)
 have hb':(b:Int)<128:=by omega
 clear hb hl kF;go_in;go_wp2_with fail;refine HR.o.mono ?_;rintro e w1 ⟨rfl,rfl⟩;go_wp2;go_ret;exact⟨rfl,rfl⟩
theorem Ot (l:List Nat)(hl:l.length=8)(hb:Bytes l)(w:World):Calls Tryz.prog 204 #[.int .u64 ((w8 l:Nat):Int)] w λe w'=>e= .returned (.int .u64 ((w8 (l.map (l9 128)):Nat):Int))/\w=w':=by
 have HR:=qd (show Calls Tryz.prog 231 #[.int .u64 ((w8 l:Nat):Int),.int .u8 128] w λe w'=>e= .returned (.int .u64 ((w8 (l.map (l9 128)):Nat):Int))/\w=w' from IU l hl hb 128 (by omega) w);clear hb hl;go_in;go_wp2_with fail;refine HR.o.mono ?_;rintro e w1 ⟨rfl,rfl⟩;go_wp2;go_ret;exact⟨rfl,rfl⟩
theorem Uj (l:List Nat)(hl:l.length=8)(hb:Bytes l)(w:World):Calls Tryz.prog 200 #[.int .u64 ((w8 l:Nat):Int)] w λe w'=>e= .returned (.int .u64 ((w8 (l.map eZ):Nat):Int))/\w=w':=by
 have HR:=qd (wm l hl hb w);clear hb hl;go_in;go_wp2_with fail;refine HR.o.mono ?_;rintro e w1 ⟨rfl,rfl⟩;go_wp2;go_ret;exact⟨rfl,rfl⟩
def Dz (l:List Nat):List Nat:=l.map λa=>255-a
def ru (l:List Nat):List Nat:=(Dz l).map eZ
theorem Uk {l:List Nat}(hb:Bytes l)(hl:l.length=8):bits .xor .u64 IntKind.u64.max ((w8 l:Nat):Int)=((w8 (Dz l):Nat):Int):=by
 unfold Dz;rw[FQ _ (rP hb hl),Dw l hb,hl]
theorem Ul (l:List Nat)(hl:l.length=8)(hb:Bytes l)(w:World):Calls Tryz.prog 255 #[.int .u64 ((w8 l:Nat):Int)] w λe w'=>e= .returned (.int .u64 ((w8 (ru l):Nat):Int))/\w=w':=by
 have HR:=qd (show Calls Tryz.prog 228 #[.int .u64 ((w8 (Dz l):Nat):Int)] w λe w'=>e= .returned (.int .u64 ((w8 (ru l):Nat):Int))/\w=w' from wm (Dz l) (by simpa[Dz]using hl) (Dv (λa _=>by omega) hb) w);have HV:=qd (Uk hb hl);clear hb hl;go_in;go_wp2_with fail;rw[HV.o];refine HR.o.mono ?_;rintro e w1 ⟨rfl,rfl⟩;go_wp2;go_ret;exact⟨rfl,rfl⟩
end Go.Proofs.YtkddpchpcepjgaaGreatDoor

/-! Groups of slots and tables of groups: where a key is sought, and what a write does. No program in sight. -/
namespace Go.Proofs.YtkddpchpcepjgaaGreatDoor.cu
set_option maxRecDepth 100000
set_option maxHeartbeats 400000
open Go Go.RowKit cu
variable {α : Type} {i n s : Nat}
theorem getD_in {l:List α}{d:α}(hi:i<l.length):l.getD i d=l[i]:=by rw[zv,zg hi];rfl
theorem BP {l:List α}{d:α}(hi:l.length<=i):l.getD i d=d:=by rw[zv,yo hi];rfl
structure ay where
 key:Nat
 val:Nat
 hash:Nat
deriving DecidableEq
inductive Slot where
 |empty
 |qP
 |full (e:ay)
deriving DecidableEq
abbrev lU:=List Slot
def Slot.byte:Slot->Nat
 | .empty=>128
 | .qP=>254
 | .full e=>e.hash % 128
def Slot.ents:Slot->List ay
 | .full e=> [e]
 |_=> []
def Slot.isFull:Slot->Bool
 | .full _=>true
 |_=>false
def Slot.jg:Slot->Bool
 | .qP=>true
 |_=>false
def Slot.isEmpty:Slot->Bool
 | .empty=>true
 |_=>false
def Slot.isKey (key hash:Nat):Slot->Bool
 | .full e=>e.hash % 128==hash % 128 && e.key==key
 |_=>false
theorem acN (s:Slot):s.byte<256:=by cases s<;>simp[Slot.byte];omega
theorem Wp (G:lU):Bytes (G.map Slot.byte):=λb hb=>by
 obtain⟨s,_,rfl⟩:=Z3.1 hb;exact acN s
def word (G:lU):Nat:=w8 (G.map Slot.byte)
def dP (G:lU):Bool:=G.any Slot.isEmpty
def iL (G:lU)(key hash:Nat):Option Nat:=G.findIdx? (Slot.isKey key hash)
def mg (G:lU):Option Nat:=G.findIdx? λs=> !s.isFull
def bX (G:lU):List ay:=G.flatMap Slot.ents
abbrev Tab:=List lU
def aH (gs:Tab)(i s:Nat):Slot:=(gs.getD i []).getD s .empty
def putAt (gs:Tab)(i s:Nat)(x:Slot):Tab:=gs.set i ((gs.getD i []).set s x)
def aM (gs:Tab):List ay:=gs.flatMap bX
def fH (gs:Tab):Nat:=(gs.map λG=>G.countP Slot.jg).sum
def rE (gs:Tab):Prop:=∀G∈gs,G.length=8
theorem rE.at_ {gs:Tab}(h:rE gs)(hi:i<gs.length):(gs.getD i []).length=8:=by
 rw[zv,zg hi];exact h _ (List.getElem_mem hi)
theorem rE.put {gs:Tab}(h:rE gs)(i s:Nat)(x:Slot):rE (putAt gs i s x):=by
 intro G hG;unfold putAt at hG;by_cases hi:i<gs.length
 ·rcases kc hG with hG|rfl
  ·exact h G hG
  ·rw[qq];exact h.at_ hi
 ·rw[List.set_eq_of_length_le (by omega)]at hG;exact h G hG
theorem iO (gs:Tab)(i s:Nat)(x:Slot):(putAt gs i s x).length=gs.length:=by simp[putAt]
theorem IW (gs:Tab)(i s:Nat)(x:Slot)(j:Nat)(hi:i<gs.length):(putAt gs i s x).getD j []=if i=j then(gs.getD i []).set s x else gs.getD j []:=by
 unfold putAt;rw[zv,qr];by_cases h:i=j
 ·subst h;rw[if_pos rfl,if_pos rfl,if_pos hi];rfl
 ·rw[if_neg h,if_neg h,<-zv]
theorem mh (gs:Tab)(i s:Nat)(x:Slot)(j k:Nat)(hi:i<gs.length)(hs:s<(gs.getD i []).length):aH (putAt gs i s x) j k=if i=j/\s=k then x else aH gs j k:=by
 unfold aH;rw[IW gs i s x j hi];by_cases h:i=j
 ·subst h;rw[if_pos rfl,zv,qr];by_cases hk:s=k
  ·subst hk;rw[if_pos rfl,if_pos hs,if_pos ⟨rfl,rfl⟩];rfl
  ·rw[if_neg hk,if_neg (by omega),<-zv]
 ·rw[if_neg h,if_neg (by omega)]
theorem lu {gs:Tab}(h:aH gs i s≠ .empty):i<gs.length/\s<(gs.getD i []).length:=by
 constructor
 ·rcases Kd i gs.length with hlt|hge
  ·exact hlt
  ·exact absurd (by unfold aH;rw[BP (l:=gs) hge];rfl) h
 ·rcases Kd s (gs.getD i []).length with hlt|hge
  ·exact hlt
  ·exact absurd (by unfold aH;rw[BP hge]) h
theorem BQ {gs:Tab}(hs:s<(gs.getD i []).length):(gs.getD i [])[s]?=some (aH gs i s):=by
 unfold aH;rw[getD_in hs,zg hs]
theorem yE {l:List α}{d:α}(hi:i<l.length):l=l.take i++l.getD i d::l.drop (i+1):=by
 have h:l.getD i d=l[i]:=by rw[zv,zg hi];rfl
 rw[h,<-ke hi,JP]
theorem pJ {l:List α}(hi:i<l.length)(x:α):l.set i x=l.take i++x::l.drop (i+1):=by
 rw[List.set_eq_take_append_cons_drop,if_pos hi]
theorem FU {gs:Tab}(hi:i<gs.length)(hs:s<(gs.getD i []).length):∃r1 r2,aM gs=r1++((aH gs i s).ents++r2)/\∀x,aM (putAt gs i s x)=r1++(x.ents++r2):=by
 refine⟨aM (gs.take i)++bX ((gs.getD i []).take s),bX ((gs.getD i []).drop (s+1))++aM (gs.drop (i+1)), ?_,λx=> ?_⟩
 ·conv=>lhs;rw[yE (d:=[]) hi,yE (d:= .empty) hs]
  simp[aM,bX,aH]
 ·unfold putAt;rw[pJ hi,pJ hs];simp[aM,bX]
theorem DC {gs:Tab}(hi:i<gs.length)(hs:s<(gs.getD i []).length)(x:Slot):((aH gs i s).ents++aM (putAt gs i s x)).Perm (x.ents++aM gs):=by
 obtain⟨r1,r2,h1,h2⟩:=FU hi hs;rw[h1,h2];generalize(aH gs i s).ents=a
 have e1:(a++(r1++(x.ents++r2))).Perm (x.ents++(a++(r1++r2))):=by
  have:=(YY (l₁:=r1) (l₂:=x.ents)).append_right r2;rw[qe,qe]at this;refine(this.append_left a).trans ?_;have h3:=(YY (l₁:=a) (l₂:=x.ents)).append_right (r1++r2);rw[qe,qe]at h3;exact h3
 refine e1.trans (List.Perm.append_left _ ?_);have:=(YY (l₁:=a) (l₂:=r1)).append_right r2;rw[qe,qe]at this;exact this
def Slot.lT (x:Slot):Nat:=if x.jg then 1 else 0
theorem xO {gs:Tab}(hi:i<gs.length)(hs:s<(gs.getD i []).length)(x:Slot):(aH gs i s).lT+fH (putAt gs i s x)=x.lT+fH gs:=by
 have e1:fH gs=(fH (gs.take i)+(List.countP Slot.jg ((gs.getD i []).take s)+((aH gs i s).lT+List.countP Slot.jg ((gs.getD i []).drop (s+1)))))+fH (gs.drop (i+1)):=by
  conv=>lhs;rw[yE (d:=[]) hi,yE (d:= .empty) hs]
  simp[fH,aH,Slot.lT,xF]
  split<;>omega
 have e2:fH (putAt gs i s x)=(fH (gs.take i)+(List.countP Slot.jg ((gs.getD i []).take s)+(x.lT+List.countP Slot.jg ((gs.getD i []).drop (s+1)))))+fH (gs.drop (i+1)):=by
  unfold putAt;rw[pJ hi,pJ hs];simp[fH,Slot.lT,xF]
  split<;>omega
 omega
theorem rU {gs:Tab}{e:ay}:e∈aM gs↔∃i s,aH gs i s= .full e:=by
 unfold aM bX;simp only[jz];constructor
 ·rintro⟨G,hG,x,hx,he⟩;obtain⟨i,hi,rfl⟩:=List.mem_iff_getElem.1 hG;obtain⟨s,hs,rfl⟩:=List.mem_iff_getElem.1 hx;refine⟨i,s, ?_⟩
  have h1:gs.getD i []=gs[i]:=by rw[zv,zg hi];rfl
  have h2:aH gs i s=gs[i][s]:=by unfold aH;rw[h1,zv,zg hs];rfl
  rw[h2];revert he
  cases gs[i][s]<;>simp[Slot.ents]
  exact λh=>h.symm
 ·rintro⟨i,s,h⟩;obtain⟨hi,hs⟩:=lu (gs:=gs) (i:=i) (s:=s) (by rw[h];exact λh=>by cases h)
  have h1:gs.getD i []=gs[i]:=by rw[zv,zg hi];rfl
  refine⟨gs.getD i [],by rw[h1];exact List.getElem_mem hi,aH gs i s, ?_,by rw[h];simp[Slot.ents]⟩;exact zE (BQ hs)
def IX (j:Nat):Nat:=j*(j+1)/2
def dx (h n j:Nat):Nat:=(h+IX j) % n
def walk (h n:Nat):List Nat:=(List.range n).map (dx h n)
def Pw (n:Nat):Prop:=n=1\/n=2\/n=4\/n=8\/n=16\/n=32\/n=64
theorem acO (h:Pw n):∀d,d<n->∃j,j<n/\IX j % n=d:=by
 have H:∀n∈[1,2,4,8,16,32,64],∀d:Fin n,(List.range n).any (λj=>IX j % n==d.val)=true:=by decide+kernel
 intro d hd;have:=H n (by unfold Pw at h;simp;omega) ⟨d,hd⟩;rw[QR]at this;obtain⟨j,hj,he⟩:=this;exact⟨j,va.1 hj,by simpa using he⟩
theorem Pw.pos (h:Pw n):0<n:=by unfold Pw at h;omega
theorem Pw.le (h:Pw n):n<=64:=by unfold Pw at h;omega
theorem Zz (hn:Pw n)(h i:Nat)(hi:i<n):∃j,j<n/\dx h n j=i:=by
 obtain⟨j,hj,he⟩:=acO hn ((i+n-h % n) % n) (kA _ hn.pos);refine⟨j,hj, ?_⟩;unfold dx;have hm:=kA h hn.pos;rw[Nat.add_mod,he,Nat.add_mod_mod,show h % n+(i+n-h % n)=i+n by omega,Nat.add_mod_right,vt hi]
def je (fr:Option (Nat×Nat))(i:Nat)(G:lU):Option (Nat×Nat):=match fr with|some x=>some x|none=>(mg G).map λs=>(i,s)
def jA (gs:Tab)(key hash:Nat):Nat->Nat->Option (Nat×Nat)->Option (Nat×Nat)×Option (Nat×Nat)×Nat
 |0,_,fr=>(none,fr,0)
 |f+1,j,fr=>
  let i:=dx (hash/128) gs.length j
  let G:=gs.getD i []
  let fr':=je fr i G
  match iL G key hash with
  |some s=>(some (i,s),fr',1)
  |none=>if dP G then(none,fr',1)else
   let r:=jA gs key hash f (j+1) fr'
   (r.1,r.2.1,r.2.2+1)
def aJ (gs:Tab)(key hash:Nat):Option (Nat×Nat)×Option (Nat×Nat)×Nat:=jA gs key hash gs.length 0 none
theorem AV (gs:Tab)(key hash:Nat):∀f j fr,(jA gs key hash f j fr).2.2<=f
 |0,_,_=>zb _
 |f+1,j,fr=>by
  unfold jA;simp only;split
  ·simp
  ·split
   ·simp
   ·have:=AV gs key hash f (j+1) (je fr (dx (hash/128) gs.length j) (gs.getD (dx (hash/128) gs.length j) []));simp only;omega
end Go.Proofs.YtkddpchpcepjgaaGreatDoor.cu
