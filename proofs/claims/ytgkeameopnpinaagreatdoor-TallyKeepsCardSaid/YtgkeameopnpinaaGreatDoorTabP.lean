/- What the program reckons with words of lanes. No program in sight. -/
import Derived.Test.YtgkeameopnpinaaGreatDoorLaneP
import Derived.Laws.Bits64
import Derived.Laws.Bits64b
import Derived.Test.YtgkeameopnpinaaGreatDoorProg
import Derived.Tactics
import Derived.Tactics2
import Derived.WalkKit
import Derived.WalkSpells
import Derived.WalkLawsBesides
import Derived.KernelRfl
import Derived.Outline
import Derived.IntWalk
import Derived.BigQuiet
import Derived.Deep.QuietTactic
namespace Go.Proofs.YtgkeameopnpinaaGreatDoor.bY
set_option maxRecDepth 100000
set_option maxHeartbeats 400000
open Go Go.RowKit bY
variable {b i : Nat} {l : List Nat}
theorem rM (a b:Nat)(ha:a<18446744073709551616)(hb:b<18446744073709551616):
  bits .andNot .u64 (a:Int) (b:Int)=((a &&& (18446744073709551615-b):Nat):Int):=by
 have hx:a &&& (18446744073709551615-b)<2^64:=Nat.and_lt_two_pow _ (by omega)
 have h1:(BitVec.ofInt 64 (a:Int)).toNat=a:=by
  rw[BitVec.ofInt_natCast,BitVec.toNat_ofNat];exact Nat.mod_eq_of_lt (by omega)
 have h2:(BitVec.ofInt 64 (b:Int)).toNat=b:=by
  rw[BitVec.ofInt_natCast,BitVec.toNat_ofNat];exact Nat.mod_eq_of_lt (by omega)
 show IntKind.u64.wrap ((BitVec.ofInt 64 (a:Int) &&& ~~~ BitVec.ofInt 64 (b:Int)).toNat:Int)=_;rw[BitVec.toNat_and,BitVec.toNat_not,h1,h2,IntKind.wrap_u64]
 have:(2:Nat)^64-1-b=18446744073709551615-b:=by omega
 rw[this];omega
theorem Vg (a:Nat)(ha:a<18446744073709551616):18446744073709551615^^^a=18446744073709551615-a:=by
 have h1:(BitVec.ofNat 64 a).toNat=a:=by rw[BitVec.toNat_ofNat];exact Nat.mod_eq_of_lt (by omega)
 have h2:=congrArg BitVec.toNat (BitVec.not_def (x:=BitVec.ofNat 64 a));rw[BitVec.toNat_xor,BitVec.toNat_not,BitVec.toNat_allOnes,h1]at h2
 have:(2:Nat)^64-1=18446744073709551615:=by decide
 rw[this]at h2;exact h2.symm
theorem Zb:IntKind.u64.max=((18446744073709551615:Nat):Int):=by decide
theorem Db (a:Nat)(ha:a<18446744073709551616):bits .xor .u64 IntKind.u64.max (a:Int)=((18446744073709551615-a:Nat):Int):=by
 rw[Zb,bits_xor_u64_nat _ _ (by decide) ha,Vg a ha]
theorem vE {n:Nat}(_h:n<18446744073709551616):IntKind.u64.wrap (n:Int)=(n:Int):=by rw[IntKind.wrap_u64];omega
def sj (b:Nat):Nat:=w8 (List.replicate 8 b)
theorem Zc (h:b<256):sj b<18446744073709551616:=pJ (pK h) (by simp)
theorem PX (_:b<256):(72340172838076673:Int)*(b:Int)=((sj b:Nat):Int):=by
 unfold sj;rw[aal];omega
theorem Vh (hb:Bytes l)(hl:l.length=8):bits .and .u64 ((w8 l:Nat):Int) 9259542123273814144=((w8 (l.map dY):Nat):Int):=by
 rw[←Za hb hl];exact bits_and_u64_nat _ _ (pJ hb hl) (by decide)
theorem RO (hb:Bytes l)(hl:l.length=8)(h8:b<256):
  bits .and .u64 (bits .xor .u64 IntKind.u64.max (bits .or .u64 (IntKind.u64.wrap (bits .andNot .u64 (bits .xor .u64 ((w8 l:Nat):Int) ((sj b:Nat):Int)) 9259542123273814144+9187201950435737471)) (bits .xor .u64 ((w8 l:Nat):Int) ((sj b:Nat):Int)))) 9259542123273814144=
   ((w8 (l.map (ku b)):Nat):Int):=by
 have acG:=pJ hb hl;have hr:=Zc h8;rw[bits_xor_u64_nat _ _ acG hr]
 have hx:w8 l^^^sj b<18446744073709551616:=by
  have:=Nat.xor_lt_two_pow (n:=64) (x:=w8 l) (y:=sj b) (by omega) (by omega);omega
 obtain⟨x,hxe⟩:∃x,x=w8 l^^^sj b:=⟨_,rfl⟩;rw[←hxe]at hx⊢;have e1:bits .andNot .u64 (x:Int) 9259542123273814144=((x &&& 9187201950435737471:Nat):Int):=rM x 9259542123273814144 hx (by decide);rw[e1];have hand:x &&& 9187201950435737471≤9187201950435737471:=Nat.and_le_right
 have e2:((x &&& 9187201950435737471:Nat):Int)+9187201950435737471=(((x &&& 9187201950435737471)+9187201950435737471:Nat):Int):=by omega
 rw[e2,vE (by omega),bits_or_u64_nat _ _ (by omega) hx]
 have hor:((x &&& 9187201950435737471)+9187201950435737471)|||x<18446744073709551616:=by
  have:=Nat.or_lt_two_pow (n:=64) (x:=(x &&& 9187201950435737471)+9187201950435737471) (y:=x) (by omega) (by omega);omega
 rw[Db _ hor];have e3:=bits_and_u64_nat (18446744073709551615-(((x &&& 9187201950435737471)+9187201950435737471)|||x)) 9259542123273814144 (by omega) (by decide);rw[←Vf hb hl b h8];unfold sj at hxe;rw[←hxe];exact e3
theorem Vi (hb:Bytes l)(i:Nat):((w8 l:Nat):Int)/2^(8*i) % 256=((l.getD i 0:Nat):Int):=by
 rw[←Ov l i hb]
 have:(2:Nat)^(8*i)=256^i:=by rw[Nat.pow_mul]
 have e:((2:Int)^(8*i))=((256^i:Nat):Int):=by rw[←this];simp
 rw[e];omega
theorem nG {a:Nat}(h:a<256):a &&& 255=a:=by
 have:=Nat.and_two_pow_sub_one_eq_mod a 8;rw[show(255:Nat)=2^8-1 by decide,this];omega
theorem eight (hl:l.length=8):∃a0 a1 a2 a3 a4 a5 a6 a7,l=[a0,a1,a2,a3,a4,a5,a6,a7]:=by
 match l,hl with
 | [a0,a1,a2,a3,a4,a5,a6,a7],_=>exact⟨a0,a1,a2,a3,a4,a5,a6,a7,rfl⟩
theorem Vj (hb:Bytes l)(hl:l.length=8)(hi:i<8)(h8:b<256):
  (w8 l &&& (18446744073709551615-255*256^i))|||(b*256^i)=w8 (l.set i b):=by
 have hz:∀x,x*256^i=w8 ((List.replicate 8 0).set i x):=by
  intro x
  have:i=0∨i=1∨i=2∨i=3∨i=4∨i=5∨i=6∨i=7:=by omega
  rcases this with rfl|rfl|rfl|rfl|rfl|rfl|rfl|rfl<;>simp[w8,List.replicate]<;>omega
 have hB0:∀x,x<256→Bytes ((List.replicate 8 0).set i x):=fun x hx y hy=>by
  rcases List.mem_or_eq_of_mem_set hy with hy|rfl
  ·rw[(List.mem_replicate.1 hy).2];omega
  ·exact hx
 have hn:18446744073709551615-255*256^i=w8 (((List.replicate 8 0).set i 255).map fun a=>255-a):=by
  rw[AP _ (hB0 255 (by omega)),hz 255];simp
 have X0:Bytes (((List.replicate 8 0).set i 255).map fun a=>255-a):=fun y hy=>by
  obtain⟨a,_,rfl⟩:=List.mem_map.1 hy;omega
 rw[hn,hz b,yE l _ (by simp[hl]) hb X0];have hBa:Bytes (List.zipWith (· &&& ·) l (((List.replicate 8 0).set i 255).map fun a=>255-a)):=Ib (fun a b ha _=>Nat.lt_of_le_of_lt Nat.and_le_left ha) hb X0;rw[PW _ _ (by simp[hl]) hBa (hB0 b h8)];congr 1;obtain⟨a0,a1,a2,a3,a4,a5,a6,a7,rfl⟩:=eight hl;have b0:=nG (hb a0 (by simp));have b1:=nG (hb a1 (by simp));have b2:=nG (hb a2 (by simp));have b3:=nG (hb a3 (by simp));have b4:=nG (hb a4 (by simp));have b5:=nG (hb a5 (by simp));have b6:=nG (hb a6 (by simp));have b7:=nG (hb a7 (by simp))
 have:i=0∨i=1∨i=2∨i=3∨i=4∨i=5∨i=6∨i=7:=by omega
 rcases this with rfl|rfl|rfl|rfl|rfl|rfl|rfl|rfl<;>simp[List.replicate,b0,b1,b2,b3,b4,b5,b6,b7]
theorem Vk (hb:Bytes l)(hl:l.length=8)(hi:i<8)(h8:b<256):
  bits .or .u64 (bits .andNot .u64 ((w8 l:Nat):Int) (IntKind.u64.wrap (255*2^(8*i)))) (IntKind.u64.wrap ((b:Int)*2^(8*i)))=((w8 (l.set i b):Nat):Int):=by
 have e:((2:Int)^(8*i))=((256^i:Nat):Int):=by
  have:(2:Nat)^(8*i)=256^i:=by rw[Nat.pow_mul]
  rw[←this];simp
 have hp:256^i≤256^7:=Nat.pow_le_pow_right (by omega) (by omega)
 have h7:(256:Nat)^7=72057594037927936:=by decide
 rw[h7]at hp;have hbp:b*256^i≤255*256^i:=Nat.mul_le_mul_right _ (by omega)
 have e1:(255:Int)*2^(8*i)=((255*256^i:Nat):Int):=by rw[e];simp
 have e2:(b:Int)*2^(8*i)=((b*256^i:Nat):Int):=by rw[e];simp
 rw[e1,e2,vE (by omega),vE (by omega),rM _ _ (pJ hb hl) (by omega)];have hand:w8 l &&& (18446744073709551615-255*256^i)<18446744073709551616:=Nat.lt_of_le_of_lt Nat.and_le_left (pJ hb hl);rw[bits_or_u64_nat _ _ hand (by omega),Vj hb hl hi h8]
theorem yF:∀(l:List Nat),w8 l=0↔∀b∈l,b=0
 | []=>by simp[w8]
 |a::t=>by
  have:=yF t;simp only[w8,List.mem_cons,forall_eq_or_imp];rw[←this];omega
def Marks (l:List Nat):Prop:=∀b∈l,b=0∨b=128
theorem Marks.bytes (h:Marks l):Bytes l:=fun b hb=>by rcases h b hb with rfl|rfl<;>omega
theorem pO (l:List Nat):Marks (l.map dY):=fun b hb=>by
 obtain⟨a,_,rfl⟩:=List.mem_map.1 hb
 unfold dY;split<;>simp
theorem DY (b:Nat)(l:List Nat):Marks (l.map (ku b)):=fun x hx=>by
 obtain⟨a,_,rfl⟩:=List.mem_map.1 hx
 unfold ku;split<;>simp
theorem tq (h:Marks l):l.map dY=l:=by
 conv=>rhs;rw[←List.map_id l]
 exact List.map_congr_left fun b hb=>by rcases h b hb with rfl|rfl<;>rfl
def firstM (l:List Nat):Option Nat:=l.findIdx? (·==128)
def lI:List Nat→List Nat
 | []=> []
 |b::t=>if b=128 then 0::t else b::lI t
theorem AQ:∀l,(lI l).length=l.length
 | []=>rfl
 |b::t=>by unfold lI;split<;>simp[AQ t]
theorem EM:∀{l:List Nat},Marks l→Marks (lI l)
 | [],h=>h
 |b::t,h=>by
  have ht:Marks t:=fun x hx=>h x (by simp[hx]);unfold lI;split
  ·intro x hx;rcases List.mem_cons.1 hx with rfl|hx
   ·exact .inl rfl
   ·exact ht x hx
  ·intro x hx;rcases List.mem_cons.1 hx with rfl|hx
   ·exact h x (by simp)
   ·exact EM ht x hx
theorem KG:∀{l:List Nat},Marks l→w8 l≠0→w8 l &&& (w8 l-1)=w8 (lI l)
 | [],_,h=>absurd rfl h
 |b::t,h,h0=>by
  have ht:Marks t:=fun x hx=>h x (by simp[hx]);unfold lI;rcases h b (by simp)with rfl|rfl
  ·rw[if_neg (by omega)];simp only[w8]at h0⊢
   have hpos:w8 t≠0:=by omega
   have e:0+256*w8 t-1=255+256*(w8 t-1):=by omega
   rw[e,and_cons _ _ (by omega) (by omega),KG ht hpos];rfl
  ·rw[if_pos rfl];simp only[w8]at h0⊢
   have e:128+256*w8 t-1=127+256*w8 t:=by omega
   rw[e,and_cons _ _ (by omega) (by omega),Nat.and_self];rfl
theorem Vl (h:Marks l)(hl:l.length=8)(h0:w8 l≠0):bits .and .u64 ((w8 l:Nat):Int) (IntKind.u64.wrap (((w8 l:Nat):Int)-1))=((w8 (lI l):Nat):Int):=by
 have h64:=pJ h.bytes hl
 have e:((w8 l:Nat):Int)-1=((w8 l-1:Nat):Int):=by omega
 rw[e,vE (by omega),bits_and_u64_nat _ _ h64 (by omega),KG h h0]
theorem DZ (h:firstM l=some i):i<l.length:=(List.findIdx?_eq_some_iff_getElem.1 h).1
theorem oo (h:Marks l):w8 l=0↔firstM l=none:=by
 rw[yF];unfold firstM;rw[List.findIdx?_eq_none_iff];constructor
 ·intro h1 x hx;rw[h1 x hx];rfl
 ·intro h1 x hx;rcases h x hx with h2|h2
  ·exact h2
  ·have:=h1 x hx;rw[h2]at this;simp at this
end Go.Proofs.YtgkeameopnpinaaGreatDoor.bY

/-! The least marked lane, by the table of bits. No program in sight. -/
namespace Go.Proofs.YtgkeameopnpinaaGreatDoor.bY
set_option maxRecDepth 100000
set_option maxHeartbeats 400000
open Go Go.RowKit bY
variable {l : List Nat} {i : Nat}
theorem and_not_self:∀(l:List Nat),Bytes l→w8 l &&& (256^l.length-1-w8 l)=0
 |l,h=>by
  rw[←AP l h]
  have hB:Bytes (l.map fun a=>255-a):=fun y hy=>by
   obtain⟨a,_,rfl⟩:=List.mem_map.1 hy;omega
  rw[yE l _ (by simp) h hB,yF]
  have H:∀a:Fin 256,a.val &&& (255-a.val)=0:=by decide+kernel
  have:∀(l:List Nat),Bytes l→∀b∈List.zipWith (· &&& ·) l (l.map fun a=>255-a),b=0:=by
   intro l
   induction l with
   |nil=>intro _ b hb;simp at hb
   |cons a t ih=>
    intro hl b hb;rw[List.map_cons,List.zipWith_cons_cons]at hb;rcases List.mem_cons.1 hb with rfl|hb
    ·exact H ⟨a,hl.head⟩
    ·exact ih hl.tail b hb
  exact this l h
theorem Ow:∀{l:List Nat} {i:Nat},Marks l→firstM l=some i→w8 l &&& (256^l.length-w8 l)=128*256^i
 | [],_,_,h=>by simp[firstM]at h
 |b::t,i,hm,h=>by
  have ht:Marks t:=fun x hx=>hm x (by simp[hx]);have h1:=Kw t ht.bytes;unfold firstM at h;rw[List.findIdx?_cons]at h;rcases hm b (by simp)with rfl|rfl
  ·simp only[show((0:Nat)==128)=false from rfl,Bool.false_eq_true,if_false]at h;obtain⟨k,hk,rfl⟩:=Option.map_eq_some_iff.1 h;have ih:=Ow ht hk;simp only[w8,List.length_cons,Nat.pow_succ]
   have e:256^t.length*256-(0+256*w8 t)=0+256*(256^t.length-w8 t):=by omega
   rw[e,and_cons _ _ (by omega) (by omega),ih];simp;omega
  ·simp only[show((128:Nat)==128)=true from rfl,if_true]at h
   injection h with h
   subst h;simp only[w8,List.length_cons,Nat.pow_succ]
   have e:256^t.length*256-(128+256*w8 t)=128+256*(256^t.length-1-w8 t):=by omega
   rw[e,and_cons _ _ (by omega) (by omega),and_not_self t ht.bytes];rfl
def oq (i:Nat):Nat:=128*256^i*285870213051353865 % 18446744073709551616/288230376151711744
theorem Ox (hm:Marks l)(hl:l.length=8)(h:firstM l=some i):
  (IntKind.u64.wrap (bits .and .u64 ((w8 l:Nat):Int) (IntKind.u64.wrap (-((w8 l:Nat):Int)))*285870213051353865)/288230376151711744).toNat=oq i:=by
 have h64:=pJ hm.bytes hl
 have h0:w8 l≠0:=fun h0=>by rw[(oo hm).1 h0]at h;cases h
 have hn:IntKind.u64.wrap (-((w8 l:Nat):Int))=((18446744073709551616-w8 l:Nat):Int):=by rw[IntKind.wrap_u64];omega
 have e:=Ow hm h;rw[hl,show(256:Nat)^8=18446744073709551616 by decide]at e;rw[hn,bits_and_u64_nat _ _ h64 (by omega),e,IntKind.wrap_u64];unfold oq
 have e2:((128*256^i:Nat):Int)*285870213051353865 % 18446744073709551616/288230376151711744=((128*256^i*285870213051353865 % 18446744073709551616/288230376151711744:Nat):Int):=by
  simp
 rw[e2,Int.toNat_natCast]
theorem Vm (i:Nat):oq i<64:=by unfold oq;omega
theorem Oy (hm:Marks l)(hl:l.length=8)(h:firstM l=some i):
  IntKind.u64.wrap (bits .and .u64 ((w8 l:Nat):Int) (IntKind.u64.wrap (-((w8 l:Nat):Int)))*285870213051353865)/288230376151711744=((oq i:Nat):Int):=by
 rw[←Ox hm hl h]
 have:0≤IntKind.u64.wrap (bits .and .u64 ((w8 l:Nat):Int) (IntKind.u64.wrap (-((w8 l:Nat):Int)))*285870213051353865)/288230376151711744:=by rw[IntKind.wrap_u64];omega
 omega
theorem EN:∀{l:List Nat} {i:Nat} (s:Nat),firstM l=some i→cB s l=(s+i)::cB s (lI l)
 | [],_,_,h=>by simp[firstM]at h
 |b::t,i,s,h=>by
  unfold firstM at h;rw[List.findIdx?_cons]at h;by_cases hb:b=128
  ·subst hb;simp only[show((128:Nat)==128)=true from rfl,if_true]at h
   injection h with h
   subst h;simp[cB,lI]
  ·rw[if_neg (by simpa using hb)]at h;obtain⟨k,hk,rfl⟩:=Option.map_eq_some_iff.1 h;have ih:=EN (s+1) hk;simp only[cB,lI,if_neg hb];rw[ih,show s+1+k=s+(k+1) by omega]
theorem EO:∀{l:List Nat} (s:Nat),firstM l=none→cB s l=[]
 | [],_,_=>rfl
 |b::t,s,h=>by
  unfold firstM at h;rw[List.findIdx?_cons]at h;by_cases hb:b=128
  ·rw[if_pos (by simpa using hb)]at h;cases h
  ·rw[if_neg (by simpa using hb)]at h;have hk:firstM t=none:=Option.map_eq_none_iff.1 h;simp only[cB,if_neg hb];exact EO (s+1) hk
theorem AR:∀(l:List Nat) (s:Nat),(cB s l).length≤l.length
 | [],_=>Nat.le_refl _
 |b::t,s=>by
  have:=AR t (s+1);unfold cB
  split<;>simp<;>omega
theorem Oz:∀{l:List Nat},Marks l→w8 l≠0→w8 (lI l)<w8 l
 | [],_,h=>absurd rfl h
 |b::t,h,h0=>by
  have ht:Marks t:=fun x hx=>h x (by simp[hx]);rcases h b (by simp)with rfl|rfl
  ·simp only[w8,lI,show((0:Nat)=128)=False by simp,if_false]at h0⊢;have:=Oz ht (by omega);omega
  ·simp[w8,lI]
theorem ND (h:Marks l)(h0:w8 l≠0):∃i,firstM l=some i:=by
 cases hf:firstM l with
 |some i=>exact⟨i,rfl⟩
 |none=>exact absurd ((oo h).2 hf) h0
end Go.Proofs.YtgkeameopnpinaaGreatDoor.bY

/-! Words of eight lanes, and control words, by their contracts. -/
namespace Go.Proofs.YtgkeameopnpinaaGreatDoor
set_option maxRecDepth 100000
set_option maxHeartbeats 400000
open Go Go.RowKit bY
theorem yG {a b:Int}(h:a=b):Ending.returned (.int .u64 a)= .returned (.int .u64 b):=by rw[h]
theorem Dc (b:Nat)(hb:b<256)(w:World):Calls Tryz.prog 234 #[.int .u8 (b:Int)] w fun e w'=>e= .returned (.int .u64 ((sj b:Nat):Int))∧w=w':=by
 have HW:=qd (PX hb);go_in;go_wp2;go_ret;exact⟨yG HW.out,rfl⟩
theorem Zd (i:Nat)(w:World):Calls Tryz.prog 257 #[nI i] w fun e w'=>e= .returned (.bool (decide (i<8)))∧w=w':=by
 by_cases h:i<8
 ·have h':(i:Int)<8:=by omega
  have HD:=qd (decide_eq_true h);go_in;go_wp2;go_ret;exact⟨vC (by first|exact HD.out.symm|rfl|simp[HD.out]),rfl⟩
 ·have h':¬(i:Int)<8:=by omega
  have HD:=qd (show decide (i<8)=false from decide_eq_false h);go_in;go_wp2;go_ret;exact⟨vC (by first|exact HD.out.symm|rfl|simp[HD.out]),rfl⟩
theorem Df (i:Nat)(hi:i<8)(w:World):Calls Tryz.prog 257 #[nI i] w fun e w'=>e= .returned (.bool true)∧w=w':=by
 have:=Zd i w;rw[decide_eq_true hi]at this;exact this
theorem tu (l:List Nat)(hl:l.length=8)(hb:Bytes l)(w:World):Calls Tryz.prog 245 #[.int .u64 ((w8 l:Nat):Int)] w fun e w'=>e= .returned (.int .u64 ((w8 (l.map dY):Nat):Int))∧w=w':=by
 have HV:=qd (Vh hb hl);clear hl hb;go_in;go_wp2;go_ret;exact⟨yG HV.out,rfl⟩
theorem EP (l:List Nat)(hl:l.length=8)(hb:Bytes l)(b:Nat)(pR:b<256)(w:World):Calls Tryz.prog 248 #[.int .u64 ((w8 l:Nat):Int),.int .u8 (b:Int)] w fun e w'=>e= .returned (.int .u64 ((w8 (l.map (ku b)):Nat):Int))∧w=w':=by
 have HR:=qd (fun W=>Dc b pR W);have HV:=qd (RO hb hl pR);clear hl hb;go_in;go_wp2_with fail;refine(HR.out _).mono ?_;rintro e w1 ⟨rfl,rfl⟩;go_wp2;go_ret;exact⟨yG HV.out,rfl⟩
theorem RP (l:List Nat)(hb:Bytes l)(i:Nat)(hi:i<8)(w:World):Calls Tryz.prog 249 #[.int .u64 ((w8 l:Nat):Int),nI i] w fun e w'=>e= .returned (.tuple #[.int .u8 ((l.getD i 0:Nat):Int),.bool true])∧w=w':=by
 have HR:=qd (fun W=>Df i hi W);have HV:=qd (Vi hb i);clear hb;go_in;go_wp2_with fail;refine(HR.out _).mono ?_;rintro e w1 ⟨rfl,rfl⟩;go_wp2;rw[HV.out];go_ret2;exact⟨rfl,rfl⟩
theorem RQ (l:List Nat)(hl:l.length=8)(hb:Bytes l)(i b:Nat)(hi:i<8)(pR:b<256)(w:World):Calls Tryz.prog 259 #[.int .u64 ((w8 l:Nat):Int),nI i,.int .u8 (b:Int)] w fun e w'=>e= .returned (.int .u64 ((w8 (l.set i b):Nat):Int))∧∃n,w'=w.drewN n:=by
 have HR:=qd (fun W=>Df i hi W);have HV:=qd (Vk hb hl hi pR);clear hl hb;go_in;go_wp2_with fail;refine(HR.out _).mono ?_;rintro e w1 ⟨rfl,rfl⟩;go_wp2;go_quiet (fail);go_wp2;go_ret;exact⟨yG HV.out,⟨_,rfl⟩⟩
def fG (w:World):Prop:=∀i,i<8→w.cell? ⟨14,oq i,none⟩=some (.int .u8 ((8*i+7:Nat):Int))
theorem Ze (l:List Nat)(hl:l.length=8)(hm:Marks l)(i:Nat)(hi:firstM l=some i)(w:World)(hT:fG w):
  Calls Tryz.prog 246 #[.int .u64 ((w8 l:Nat):Int)] w fun e w'=>e= .returned (.int .i64 ((8*i+7:Nat):Int))∧w=w':=by
 have h8:i<8:=by have:=DZ hi;omega
 have hT1:=hT i h8
 have h0:(((w8 l:Nat):Int)==0)=false:=by
  rw[beq_eq_false_iff_ne];intro h0;rw[(oo hm).1 (by omega)]at hi;cases hi
 have hT':w.cell? ⟨14,(IntKind.u64.wrap (bits .and .u64 ((w8 l:Nat):Int) (IntKind.u64.wrap (-((w8 l:Nat):Int)))*285870213051353865)/288230376151711744).toNat,none⟩=some (.int .u8 ((8*i+7:Nat):Int)):=by
  rw[Ox hm hl hi];exact hT1
 have hlt:IntKind.u64.wrap (bits .and .u64 ((w8 l:Nat):Int) (IntKind.u64.wrap (-((w8 l:Nat):Int)))*285870213051353865)/288230376151711744<64:=by
  rw[Oy hm hl hi];have:=Vm i;omega
 have hge:0≤IntKind.u64.wrap (bits .and .u64 ((w8 l:Nat):Int) (IntKind.u64.wrap (-((w8 l:Nat):Int)))*285870213051353865)/288230376151711744:=by
  rw[Oy hm hl hi];omega
 clear hT1 hT hm hi hl;go_in;go_wp2;go_ret;exact⟨gK (by omega),rfl⟩
theorem wP (l:List Nat)(hl:l.length=8)(hb:Bytes l)(i:Nat)(hi:firstM (l.map dY)=some i)(w:World)(hT:fG w):
  Calls Tryz.prog 222 #[.int .u64 ((w8 l:Nat):Int)] w fun e w'=>e= .returned (nI i)∧w=w':=by
 have hm:=pO l
 have hlm:(l.map dY).length=8:=by simpa using hl
 have h0:(((w8 (l.map dY):Nat):Int)==0)=false:=by
  rw[beq_eq_false_iff_ne];intro h0;rw[(oo hm).1 (by omega)]at hi;cases hi
 have HT:=qd (Ze (l.map dY) hlm hm i hi w hT);have HH:=qd (tu l hl hb w)
 have hp:(0:Int)≤8*(i:Int)+7:=by omega
 have hp2:8*(i:Int)+7≤1000000:=by have:=DZ hi;omega
 clear hl hb hi hm hlm hT;go_in;go_wp2_with fail;refine HH.out.mono ?_;rintro e w1 ⟨rfl,rfl⟩;go_wp2_with fail;refine HT.out.mono ?_;rintro e w1 ⟨rfl,rfl⟩;go_wp2;go_ret;exact⟨gK (by omega),rfl⟩
theorem ER (l:List Nat)(hl:l.length=8)(hb:Bytes l)(hi:firstM (l.map dY)=none)(w:World):
  Calls Tryz.prog 222 #[.int .u64 ((w8 l:Nat):Int)] w fun e w'=>e= .returned (.int .i64 (-1))∧w=w':=by
 have h0:(((w8 (l.map dY):Nat):Int)==0)=true:=by
  rw[beq_iff_eq,(oo (pO l)).2 hi];rfl
 have HH:=qd (tu l hl hb w);clear hl hb hi;go_in;go_wp2_with fail;refine HH.out.mono ?_;rintro e w1 ⟨rfl,rfl⟩;go_wp2;go_ret;exact⟨rfl,rfl⟩
def sw:Option Nat→Int
 |some i=>(i:Int)
 |none=> -1
theorem PY (l:List Nat)(hl:l.length=8)(hb:Bytes l)(w:World)(hT:fG w):
  Calls Tryz.prog 222 #[.int .u64 ((w8 l:Nat):Int)] w fun e w'=>e= .returned (.int .i64 (sw (firstM (l.map dY))))∧w=w':=by
 cases h:firstM (l.map dY)with
 |some i=>exact wP l hl hb i h w hT
 |none=>exact ER l hl hb h w
theorem Vn (w:World):Calls Tryz.prog 204 #[] w fun e w'=>e= .returned (.int .u64 ((sj 128:Nat):Int))∧w=w':=by
 have HR:=qd (Dc 128 (by omega) w);go_in;go_wp2_with fail;refine HR.out.mono ?_;rintro e w1 ⟨rfl,rfl⟩;go_wp2;go_ret;exact⟨rfl,rfl⟩
theorem KH (b:Nat)(hb:b<256)(h:b≤128∨b=254)(w:World):Calls Tryz.prog 258 #[.int .u8 (b:Int)] w fun e w'=>e= .returned (.bool true)∧w=w':=by
 rcases h with h|rfl
 ·have h':(b:Int)≤128:=by omega
  go_in;go_wp2;go_ret;exact⟨rfl,rfl⟩
 ·go_in;go_wp2;go_ret;exact⟨rfl,rfl⟩
theorem D5 (l:List Nat)(hb:Bytes l)(i:Nat)(hi:i<8)(w:World):Calls Tryz.prog 229 #[.int .u64 ((w8 l:Nat):Int),nI i] w fun e w'=>e= .returned (.int .u8 ((l.getD i 0:Nat):Int))∧w=w':=by
 have HR:=qd (RP l hb i hi w);clear hb hi;go_in;go_wp2_with fail;refine HR.out.mono ?_;rintro e w1 ⟨rfl,rfl⟩;go_wp2;go_ret;exact⟨rfl,rfl⟩
theorem Vo (l:List Nat)(hl:l.length=8)(hb:Bytes l)(i b:Nat)(hi:i<8)(pR:b<256)(h:b≤128∨b=254)(w:World):Calls Tryz.prog 250 #[.int .u64 ((w8 l:Nat):Int),nI i,.int .u8 (b:Int)] w fun e w'=>e= .returned (.tuple #[.int .u64 ((w8 (l.set i b):Nat):Int),.nilIface])∧∃n,w'=w.drewN n:=by
 have HR:=qd (RQ l hl hb i b hi pR w);have HC:=qd (KH b pR h w)
 have hi':(i:Int)<8:=by omega
 clear hb hi hl pR h;go_in;go_wp2_with fail;refine HC.out.mono ?_;rintro e w1 ⟨rfl,rfl⟩;go_wp2_with fail;refine HR.out.mono ?_;rintro e w1 ⟨rfl,n,rfl⟩;go_wp2;go_ret2;exact⟨rfl,n,rfl⟩
theorem PZ (l:List Nat)(hl:l.length=8)(hb:Bytes l)(b:Nat)(pR:b<128)(w:World):Calls Tryz.prog 225 #[.int .u64 ((w8 l:Nat):Int),.int .u8 (b:Int)] w fun e w'=>e= .returned (.int .u64 ((w8 (l.map (ku b)):Nat):Int))∧w=w':=by
 have HR:=qd (EP l hl hb b (by omega) w)
 have hb':(b:Int)<128:=by omega
 clear hb hl pR;go_in;go_wp2_with fail;refine HR.out.mono ?_;rintro e w1 ⟨rfl,rfl⟩;go_wp2;go_ret;exact⟨rfl,rfl⟩
theorem KI (l:List Nat)(hl:l.length=8)(hb:Bytes l)(w:World):Calls Tryz.prog 227 #[.int .u64 ((w8 l:Nat):Int)] w fun e w'=>e= .returned (.int .u64 ((w8 (l.map (ku 128)):Nat):Int))∧w=w':=by
 have HR:=qd (show Calls Tryz.prog 248 #[.int .u64 ((w8 l:Nat):Int),.int .u8 128] w fun e w'=>e= .returned (.int .u64 ((w8 (l.map (ku 128)):Nat):Int))∧w=w' from EP l hl hb 128 (by omega) w);clear hb hl;go_in;go_wp2_with fail;refine HR.out.mono ?_;rintro e w1 ⟨rfl,rfl⟩;go_wp2;go_ret;exact⟨rfl,rfl⟩
theorem P5 (l:List Nat)(hl:l.length=8)(hb:Bytes l)(w:World):Calls Tryz.prog 223 #[.int .u64 ((w8 l:Nat):Int)] w fun e w'=>e= .returned (.int .u64 ((w8 (l.map dY):Nat):Int))∧w=w':=by
 have HR:=qd (tu l hl hb w);clear hb hl;go_in;go_wp2_with fail;refine HR.out.mono ?_;rintro e w1 ⟨rfl,rfl⟩;go_wp2;go_ret;exact⟨rfl,rfl⟩
def AU (l:List Nat):List Nat:=l.map fun a=>255-a
def oZ (l:List Nat):List Nat:=(AU l).map dY
theorem P6 {l:List Nat}(hb:Bytes l)(hl:l.length=8):bits .xor .u64 IntKind.u64.max ((w8 l:Nat):Int)=((w8 (AU l):Nat):Int):=by
 unfold AU;rw[Db _ (pJ hb hl),AP l hb,hl]
theorem P7 (l:List Nat)(hl:l.length=8)(hb:Bytes l)(w:World):Calls Tryz.prog 251 #[.int .u64 ((w8 l:Nat):Int)] w fun e w'=>e= .returned (.int .u64 ((w8 (oZ l):Nat):Int))∧w=w':=by
 have HR:=qd (show Calls Tryz.prog 245 #[.int .u64 ((w8 (AU l):Nat):Int)] w fun e w'=>e= .returned (.int .u64 ((w8 (oZ l):Nat):Int))∧w=w' from tu (AU l) (by simpa[AU]using hl) (AO (fun a _=>by omega) hb) w);have HV:=qd (P6 hb hl);clear hb hl;go_in;go_wp2_with fail;rw[HV.out];refine HR.out.mono ?_;rintro e w1 ⟨rfl,rfl⟩;go_wp2;go_ret;exact⟨rfl,rfl⟩
end Go.Proofs.YtgkeameopnpinaaGreatDoor

/-! Groups of slots and tables of groups: where a key is sought, and what a write does. No program in sight. -/
namespace Go.Proofs.YtgkeameopnpinaaGreatDoor.bY
set_option maxRecDepth 100000
set_option maxHeartbeats 400000
open Go Go.RowKit bY
variable {α : Type} {i n s : Nat}
theorem getD_in {l:List α}{d:α}(hi:i<l.length):l.getD i d=l[i]:=by rw[List.getD_eq_getElem?_getD,List.getElem?_eq_getElem hi];rfl
theorem zm {l:List α}{d:α}(hi:l.length≤i):l.getD i d=d:=by rw[List.getD_eq_getElem?_getD,List.getElem?_eq_none hi];rfl
structure av where
 key:Nat
 val:Nat
 hash:Nat
deriving DecidableEq
inductive Slot where
 |empty
 |oH
 |full (e:av)
deriving DecidableEq
abbrev j4:=List Slot
def Slot.byte:Slot→Nat
 | .empty=>128
 | .oH=>254
 | .full e=>e.hash % 128
def Slot.ents:Slot→List av
 | .full e=> [e]
 |_=> []
def Slot.isFull:Slot→Bool
 | .full _=>true
 |_=>false
def Slot.iD:Slot→Bool
 | .oH=>true
 |_=>false
def Slot.isEmpty:Slot→Bool
 | .empty=>true
 |_=>false
def Slot.isKey (key hash:Nat):Slot→Bool
 | .full e=>e.hash % 128==hash % 128 && e.key==key
 |_=>false
theorem Zf (s:Slot):s.byte<256:=by cases s<;>simp[Slot.byte];omega
theorem RS (G:j4):Bytes (G.map Slot.byte):=fun b hb=>by
 obtain⟨s,_,rfl⟩:=List.mem_map.1 hb;exact Zf s
def word (G:j4):Nat:=w8 (G.map Slot.byte)
def dF (G:j4):Bool:=G.any Slot.isEmpty
def gI (G:j4)(key hash:Nat):Option Nat:=G.findIdx? (Slot.isKey key hash)
def kC (G:j4):Option Nat:=G.findIdx? fun s=> !s.isFull
def bO (G:j4):List av:=G.flatMap Slot.ents
abbrev Tab:=List j4
def aF (gs:Tab)(i s:Nat):Slot:=(gs.getD i []).getD s .empty
def putAt (gs:Tab)(i s:Nat)(x:Slot):Tab:=gs.set i ((gs.getD i []).set s x)
def aL (gs:Tab):List av:=gs.flatMap bO
def eF (gs:Tab):Nat:=(gs.map fun G=>G.countP Slot.iD).sum
def pz (gs:Tab):Prop:=∀G∈gs,G.length=8
theorem pz.at_ {gs:Tab}(h:pz gs)(hi:i<gs.length):(gs.getD i []).length=8:=by
 rw[List.getD_eq_getElem?_getD,List.getElem?_eq_getElem hi];exact h _ (List.getElem_mem hi)
theorem pz.put {gs:Tab}(h:pz gs)(i s:Nat)(x:Slot):pz (putAt gs i s x):=by
 intro G hG;unfold putAt at hG;by_cases hi:i<gs.length
 ·rcases List.mem_or_eq_of_mem_set hG with hG|rfl
  ·exact h G hG
  ·rw[List.length_set];exact h.at_ hi
 ·rw[List.set_eq_of_length_le (by omega)]at hG;exact h G hG
theorem gL (gs:Tab)(i s:Nat)(x:Slot):(putAt gs i s x).length=gs.length:=by simp[putAt]
theorem ES (gs:Tab)(i s:Nat)(x:Slot)(j:Nat)(hi:i<gs.length):(putAt gs i s x).getD j []=if i=j then(gs.getD i []).set s x else gs.getD j []:=by
 unfold putAt;rw[List.getD_eq_getElem?_getD,List.getElem?_set];by_cases h:i=j
 ·subst h;rw[if_pos rfl,if_pos rfl,if_pos hi];rfl
 ·rw[if_neg h,if_neg h,←List.getD_eq_getElem?_getD]
theorem kD (gs:Tab)(i s:Nat)(x:Slot)(j k:Nat)(hi:i<gs.length)(hs:s<(gs.getD i []).length):aF (putAt gs i s x) j k=if i=j∧s=k then x else aF gs j k:=by
 unfold aF;rw[ES gs i s x j hi];by_cases h:i=j
 ·subst h;rw[if_pos rfl,List.getD_eq_getElem?_getD,List.getElem?_set];by_cases hk:s=k
  ·subst hk;rw[if_pos rfl,if_pos hs,if_pos ⟨rfl,rfl⟩];rfl
  ·rw[if_neg hk,if_neg (by omega),←List.getD_eq_getElem?_getD]
 ·rw[if_neg h,if_neg (by omega)]
theorem jI {gs:Tab}(h:aF gs i s≠ .empty):i<gs.length∧s<(gs.getD i []).length:=by
 constructor
 ·rcases Nat.lt_or_ge i gs.length with hlt|hge
  ·exact hlt
  ·exact absurd (by unfold aF;rw[zm (l:=gs) hge];rfl) h
 ·rcases Nat.lt_or_ge s (gs.getD i []).length with hlt|hge
  ·exact hlt
  ·exact absurd (by unfold aF;rw[zm hge]) h
theorem zn {gs:Tab}(hs:s<(gs.getD i []).length):(gs.getD i [])[s]?=some (aF gs i s):=by
 unfold aF;rw[getD_in hs,List.getElem?_eq_getElem hs]
theorem vF {l:List α}{d:α}(hi:i<l.length):l=l.take i++l.getD i d::l.drop (i+1):=by
 have h:l.getD i d=l[i]:=by rw[List.getD_eq_getElem?_getD,List.getElem?_eq_getElem hi];rfl
 rw[h,←List.drop_eq_getElem_cons hi,List.take_append_drop]
theorem nH {l:List α}(hi:i<l.length)(x:α):l.set i x=l.take i++x::l.drop (i+1):=by
 rw[List.set_eq_take_append_cons_drop,if_pos hi]
theorem Dg {gs:Tab}(hi:i<gs.length)(hs:s<(gs.getD i []).length):∃r1 r2,aL gs=r1++((aF gs i s).ents++r2)∧∀x,aL (putAt gs i s x)=r1++(x.ents++r2):=by
 refine⟨aL (gs.take i)++bO ((gs.getD i []).take s),bO ((gs.getD i []).drop (s+1))++aL (gs.drop (i+1)), ?_,fun x=> ?_⟩
 ·conv=>lhs;rw[vF (d:=[]) hi,vF (d:= .empty) hs]
  simp[aL,bO,aF]
 ·unfold putAt;rw[nH hi,nH hs];simp[aL,bO]
theorem AV {gs:Tab}(hi:i<gs.length)(hs:s<(gs.getD i []).length)(x:Slot):((aF gs i s).ents++aL (putAt gs i s x)).Perm (x.ents++aL gs):=by
 obtain⟨r1,r2,h1,h2⟩:=Dg hi hs;rw[h1,h2];generalize(aF gs i s).ents=a
 have e1:(a++(r1++(x.ents++r2))).Perm (x.ents++(a++(r1++r2))):=by
  have:=(List.perm_append_comm (l₁:=r1) (l₂:=x.ents)).append_right r2;rw[List.append_assoc,List.append_assoc]at this;refine(this.append_left a).trans ?_;have h3:=(List.perm_append_comm (l₁:=a) (l₂:=x.ents)).append_right (r1++r2);rw[List.append_assoc,List.append_assoc]at h3;exact h3
 refine e1.trans (List.Perm.append_left _ ?_);have:=(List.perm_append_comm (l₁:=a) (l₂:=r1)).append_right r2;rw[List.append_assoc,List.append_assoc]at this;exact this
def Slot.jV (x:Slot):Nat:=if x.iD then 1 else 0
theorem uN {gs:Tab}(hi:i<gs.length)(hs:s<(gs.getD i []).length)(x:Slot):(aF gs i s).jV+eF (putAt gs i s x)=x.jV+eF gs:=by
 have e1:eF gs=(eF (gs.take i)+(List.countP Slot.iD ((gs.getD i []).take s)+((aF gs i s).jV+List.countP Slot.iD ((gs.getD i []).drop (s+1)))))+eF (gs.drop (i+1)):=by
  conv=>lhs;rw[vF (d:=[]) hi,vF (d:= .empty) hs]
  simp[eF,aF,Slot.jV,List.countP_cons]
  split<;>omega
 have e2:eF (putAt gs i s x)=(eF (gs.take i)+(List.countP Slot.iD ((gs.getD i []).take s)+(x.jV+List.countP Slot.iD ((gs.getD i []).drop (s+1)))))+eF (gs.drop (i+1)):=by
  unfold putAt;rw[nH hi,nH hs];simp[eF,Slot.jV,List.countP_cons]
  split<;>omega
 omega
theorem pU {gs:Tab}{e:av}:e∈aL gs↔∃i s,aF gs i s= .full e:=by
 unfold aL bO;simp only[List.mem_flatMap];constructor
 ·rintro⟨G,hG,x,hx,he⟩;obtain⟨i,hi,rfl⟩:=List.mem_iff_getElem.1 hG;obtain⟨s,hs,rfl⟩:=List.mem_iff_getElem.1 hx;refine⟨i,s, ?_⟩
  have h1:gs.getD i []=gs[i]:=by rw[List.getD_eq_getElem?_getD,List.getElem?_eq_getElem hi];rfl
  have h2:aF gs i s=gs[i][s]:=by unfold aF;rw[h1,List.getD_eq_getElem?_getD,List.getElem?_eq_getElem hs];rfl
  rw[h2];revert he
  cases gs[i][s]<;>simp[Slot.ents]
  exact fun h=>h.symm
 ·rintro⟨i,s,h⟩;obtain⟨hi,hs⟩:=jI (gs:=gs) (i:=i) (s:=s) (by rw[h];exact fun h=>by cases h)
  have h1:gs.getD i []=gs[i]:=by rw[List.getD_eq_getElem?_getD,List.getElem?_eq_getElem hi];rfl
  refine⟨gs.getD i [],by rw[h1];exact List.getElem_mem hi,aF gs i s, ?_,by rw[h];simp[Slot.ents]⟩;exact List.mem_of_getElem? (zn hs)
def ET (j:Nat):Nat:=j*(j+1)/2
def bV (h n j:Nat):Nat:=(h+ET j) % n
def walk (h n:Nat):List Nat:=(List.range n).map (bV h n)
def Pw (n:Nat):Prop:=n=1∨n=2∨n=4∨n=8∨n=16∨n=32∨n=64
theorem Zg (h:Pw n):∀d,d<n→∃j,j<n∧ET j % n=d:=by
 have H:∀n∈[1,2,4,8,16,32,64],∀d:Fin n,(List.range n).any (fun j=>ET j % n==d.val)=true:=by decide+kernel
 intro d hd;have:=H n (by unfold Pw at h;simp;omega) ⟨d,hd⟩;rw[List.any_eq_true]at this;obtain⟨j,hj,he⟩:=this;exact⟨j,List.mem_range.1 hj,by simpa using he⟩
theorem Pw.pos (h:Pw n):0<n:=by unfold Pw at h;omega
theorem Pw.le (h:Pw n):n≤64:=by unfold Pw at h;omega
theorem Vp (hn:Pw n)(h i:Nat)(hi:i<n):∃j,j<n∧bV h n j=i:=by
 obtain⟨j,hj,he⟩:=Zg hn ((i+n-h % n) % n) (Nat.mod_lt _ hn.pos);refine⟨j,hj, ?_⟩;unfold bV;have hm:=Nat.mod_lt h hn.pos;rw[Nat.add_mod,he,Nat.add_mod_mod,show h % n+(i+n-h % n)=i+n by omega,Nat.add_mod_right,Nat.mod_eq_of_lt hi]
def iy (fr:Option (Nat×Nat))(i:Nat)(G:j4):Option (Nat×Nat):=match fr with|some x=>some x|none=>(kC G).map fun s=>(i,s)
def iH (gs:Tab)(key hash:Nat):Nat→Nat→Option (Nat×Nat)→Option (Nat×Nat)×Option (Nat×Nat)×Nat
 |0,_,fr=>(none,fr,0)
 |f+1,j,fr=>
  let i:=bV (hash/128) gs.length j
  let G:=gs.getD i []
  let fr':=iy fr i G
  match gI G key hash with
  |some s=>(some (i,s),fr',1)
  |none=>if dF G then(none,fr',1)else
   let r:=iH gs key hash f (j+1) fr'
   (r.1,r.2.1,r.2.2+1)
def aI (gs:Tab)(key hash:Nat):Option (Nat×Nat)×Option (Nat×Nat)×Nat:=iH gs key hash gs.length 0 none
theorem yH (gs:Tab)(key hash:Nat):∀f j fr,(iH gs key hash f j fr).2.2≤f
 |0,_,_=>Nat.le_refl _
 |f+1,j,fr=>by
  unfold iH;simp only;split
  ·simp
  ·split
   ·simp
   ·have:=yH gs key hash f (j+1) (iy fr (bV (hash/128) gs.length j) (gs.getD (bV (hash/128) gs.length j) []));simp only;omega
end Go.Proofs.YtgkeameopnpinaaGreatDoor.bY
