/- The least marked lane, by the table of bits. No program in sight. -/
import Derived.Test.YtnfjjbpmhcbelaaGreatDoorFqA
import Derived.Test.YtnfjjbpmhcbelaaGreatDoorProg
import Derived.Test.YtnfjjbpmhcbelaaGreatDoorGaugeA
import Derived.Tactics
import Derived.Tactics2
import Derived.WalkKit
import Derived.WalkSpells
import Derived.WalkLawsBesides
import Derived.KernelRfl
import Derived.Outline
import Derived.IntWalk
import Derived.BigQuiet
import Derived.Deep.QuietTactic
namespace Go.Proofs.YtnfjjbpmhcbelaaGreatDoor.dI
set_option maxRecDepth 100000
set_option maxHeartbeats 400000
open Go Go.RowKit dI
variable {l : List Nat} {i : Nat}
theorem and_not_self:∀(l:List Nat),Bytes l→w8 l &&& (256^l.length-1-w8 l)=0
 |l,h=>by
  rw[←Cz l h]
  have hB:Bytes (l.map fun a=>255-a):=fun y hy=>by
   obtain⟨a,_,rfl⟩:=List.mem_map.1 hy;omega
  rw[zR l _ (by simp) h hB,zS]
  have H:∀a:Fin 256,a.val &&& (255-a.val)=0:=by decide+kernel
  have:∀(l:List Nat),Bytes l→∀b∈List.zipWith (· &&& ·) l (l.map fun a=>255-a),b=0:=by
   intro l
   induction l with
   |nil=>intro _ b hb;simp at hb
   |cons a t ih=>
    intro hl b hb;rw[List.map_cons,List.zipWith_cons_cons]at hb;rcases List.mem_cons.1 hb with rfl|hb
    ·exact H ⟨a,hl.head⟩
    ·exact ih hl.tail b hb
  exact this l h
theorem QA:∀{l:List Nat} {i:Nat},Marks l→firstM l=some i→w8 l &&& (256^l.length-w8 l)=128*256^i
 | [],_,_,h=>by simp[firstM]at h
 |b::t,i,hm,h=>by
  have ht:Marks t:=fun x hx=>hm x (by simp[hx]);have h1:=Mt t ht.bytes;unfold firstM at h;rw[List.findIdx?_cons]at h;rcases hm b (by simp)with rfl|rfl
  ·simp only[show((0:Nat)==128)=false from rfl,Bool.false_eq_true,if_false]at h;obtain⟨k,hk,rfl⟩:=Option.map_eq_some_iff.1 h;have ih:=QA ht hk;simp only[w8,List.length_cons,Nat.pow_succ]
   have e:256^t.length*256-(0+256*w8 t)=0+256*(256^t.length-w8 t):=by omega
   rw[e,and_cons _ _ (by omega) (by omega),ih];simp;omega
  ·simp only[show((128:Nat)==128)=true from rfl,if_true]at h
   injection h with h
   subst h;simp only[w8,List.length_cons,Nat.pow_succ]
   have e:256^t.length*256-(128+256*w8 t)=128+256*(256^t.length-1-w8 t):=by omega
   rw[e,and_cons _ _ (by omega) (by omega),and_not_self t ht.bytes];rfl
def pO (i:Nat):Nat:=128*256^i*285870213051353865 % 18446744073709551616/288230376151711744
theorem QB (hm:Marks l)(hl:l.length=8)(h:firstM l=some i):
  (IntKind.u64.wrap (bits .and .u64 ((w8 l:Nat):Int) (IntKind.u64.wrap (-((w8 l:Nat):Int)))*285870213051353865)/288230376151711744).toNat=pO i:=by
 have h64:=rA hm.bytes hl
 have h0:w8 l≠0:=fun h0=>by rw[(pI hm).1 h0]at h;cases h
 have hn:IntKind.u64.wrap (-((w8 l:Nat):Int))=((18446744073709551616-w8 l:Nat):Int):=by rw[IntKind.wrap_u64];omega
 have e:=QA hm h;rw[hl,show(256:Nat)^8=18446744073709551616 by decide]at e;rw[hn,bits_and_u64_nat _ _ h64 (by omega),e,IntKind.wrap_u64];unfold pO
 have e2:((128*256^i:Nat):Int)*285870213051353865 % 18446744073709551616/288230376151711744=((128*256^i*285870213051353865 % 18446744073709551616/288230376151711744:Nat):Int):=by
  simp
 rw[e2,Int.toNat_natCast]
theorem X0 (i:Nat):pO i<64:=by unfold pO;omega
theorem QC (hm:Marks l)(hl:l.length=8)(h:firstM l=some i):
  IntKind.u64.wrap (bits .and .u64 ((w8 l:Nat):Int) (IntKind.u64.wrap (-((w8 l:Nat):Int)))*285870213051353865)/288230376151711744=((pO i:Nat):Int):=by
 rw[←QB hm hl h]
 have:0≤IntKind.u64.wrap (bits .and .u64 ((w8 l:Nat):Int) (IntKind.u64.wrap (-((w8 l:Nat):Int)))*285870213051353865)/288230376151711744:=by rw[IntKind.wrap_u64];omega
 omega
theorem G9:∀{l:List Nat} {i:Nat} (s:Nat),firstM l=some i→cZ s l=(s+i)::cZ s (mE l)
 | [],_,_,h=>by simp[firstM]at h
 |b::t,i,s,h=>by
  unfold firstM at h;rw[List.findIdx?_cons]at h;by_cases hb:b=128
  ·subst hb;simp only[show((128:Nat)==128)=true from rfl,if_true]at h
   injection h with h
   subst h;simp[cZ,mE]
  ·rw[if_neg (by simpa using hb)]at h;obtain⟨k,hk,rfl⟩:=Option.map_eq_some_iff.1 h;have ih:=G9 (s+1) hk;simp only[cZ,mE,if_neg hb];rw[ih,show s+1+k=s+(k+1) by omega]
theorem He:∀{l:List Nat} (s:Nat),firstM l=none→cZ s l=[]
 | [],_,_=>rfl
 |b::t,s,h=>by
  unfold firstM at h;rw[List.findIdx?_cons]at h;by_cases hb:b=128
  ·rw[if_pos (by simpa using hb)]at h;cases h
  ·rw[if_neg (by simpa using hb)]at h;have hk:firstM t=none:=Option.map_eq_none_iff.1 h;simp only[cZ,if_neg hb];exact He (s+1) hk
theorem CG:∀(l:List Nat) (s:Nat),(cZ s l).length≤l.length
 | [],_=>Nat.le_refl _
 |b::t,s=>by
  have:=CG t (s+1);unfold cZ
  split<;>simp<;>omega
theorem QD:∀{l:List Nat},Marks l→w8 l≠0→w8 (mE l)<w8 l
 | [],_,h=>absurd rfl h
 |b::t,h,h0=>by
  have ht:Marks t:=fun x hx=>h x (by simp[hx]);rcases h b (by simp)with rfl|rfl
  ·simp only[w8,mE,show((0:Nat)=128)=False by simp,if_false]at h0⊢;have:=QD ht (by omega);omega
  ·simp[w8,mE]
theorem PS (h:Marks l)(h0:w8 l≠0):∃i,firstM l=some i:=by
 cases hf:firstM l with
 |some i=>exact⟨i,rfl⟩
 |none=>exact absurd ((pI h).2 hf) h0
end Go.Proofs.YtnfjjbpmhcbelaaGreatDoor.dI

/-! Words of eight lanes, and control words, by their contracts. -/
namespace Go.Proofs.YtnfjjbpmhcbelaaGreatDoor
set_option maxRecDepth 100000
set_option maxHeartbeats 400000
open Go Go.RowKit dI
theorem zT {a b:Int}(h:a=b):Ending.returned (.int .u64 a)= .returned (.int .u64 b):=by rw[h]
theorem EJ (b:Nat)(hb:b<256)(w:World):Calls Tryz.prog 269 #[.int .u8 (b:Int)] w fun e w'=>e= .returned (.int .u64 ((uD b:Nat):Int))∧w=w':=by
 have HW:=qd (RZ hb);go_in;go_wp2;go_ret;exact⟨zT HW.out,rfl⟩
theorem aaU (i:Nat)(w:World):Calls Tryz.prog 270 #[nI i] w fun e w'=>e= .returned (.bool (decide (i<8)))∧w=w':=by
 by_cases h:i<8
 ·have h':(i:Int)<8:=by omega
  have HD:=qd (decide_eq_true h);go_in;go_wp2;go_ret;exact⟨uz (by first|exact HD.out.symm|rfl|simp[HD.out]),rfl⟩
 ·have h':¬(i:Int)<8:=by omega
  have HD:=qd (show decide (i<8)=false from decide_eq_false h);go_in;go_wp2;go_ret;exact⟨uz (by first|exact HD.out.symm|rfl|simp[HD.out]),rfl⟩
theorem EK (i:Nat)(hi:i<8)(w:World):Calls Tryz.prog 270 #[nI i] w fun e w'=>e= .returned (.bool true)∧w=w':=by
 have:=aaU i w;rw[decide_eq_true hi]at this;exact this
theorem vo (l:List Nat)(hl:l.length=8)(hb:Bytes l)(w:World):Calls Tryz.prog 249 #[.int .u64 ((w8 l:Nat):Int)] w fun e w'=>e= .returned (.int .u64 ((w8 (l.map eu):Nat):Int))∧w=w':=by
 have HV:=qd (XQ hb hl);clear hl hb;go_in;go_wp2;go_ret;exact⟨zT HV.out,rfl⟩
theorem Hf (l:List Nat)(hl:l.length=8)(hb:Bytes l)(b:Nat)(nQ:b<256)(w:World):Calls Tryz.prog 252 #[.int .u64 ((w8 l:Nat):Int),.int .u8 (b:Int)] w fun e w'=>e= .returned (.int .u64 ((w8 (l.map (kU b)):Nat):Int))∧w=w':=by
 have HR:=qd (fun W=>EJ b nQ W);have HV:=qd (Uv hb hl nQ);clear hl hb;go_in;go_wp2_with fail;refine(HR.out _).mono ?_;rintro e w1 ⟨rfl,rfl⟩;go_wp2;go_ret;exact⟨zT HV.out,rfl⟩
theorem Uz (l:List Nat)(hb:Bytes l)(i:Nat)(hi:i<8)(w:World):Calls Tryz.prog 253 #[.int .u64 ((w8 l:Nat):Int),nI i] w fun e w'=>e= .returned (.tuple #[.int .u8 ((l.getD i 0:Nat):Int),.bool true])∧w=w':=by
 have HR:=qd (fun W=>EK i hi W);have HV:=qd (XR hb i);clear hb;go_in;go_wp2_with fail;refine(HR.out _).mono ?_;rintro e w1 ⟨rfl,rfl⟩;go_wp2;rw[HV.out];go_ret2;exact⟨rfl,rfl⟩
theorem UA (l:List Nat)(hl:l.length=8)(hb:Bytes l)(i b:Nat)(hi:i<8)(nQ:b<256)(w:World):Calls Tryz.prog 272 #[.int .u64 ((w8 l:Nat):Int),nI i,.int .u8 (b:Int)] w fun e w'=>e= .returned (.int .u64 ((w8 (l.set i b):Nat):Int))∧∃n,w'=w.drewN n:=by
 have HR:=qd (fun W=>EK i hi W);have HV:=qd (XU hb hl hi nQ);clear hl hb;go_in;go_wp2_with fail;refine(HR.out _).mono ?_;rintro e w1 ⟨rfl,rfl⟩;go_wp2;go_quiet (fail);go_wp2;go_ret;exact⟨zT HV.out,⟨_,rfl⟩⟩
def fP (w:World):Prop:=∀i,i<8→w.cell? ⟨17,pO i,none⟩=some (.int .u8 ((8*i+7:Nat):Int))
theorem aaV (l:List Nat)(hl:l.length=8)(hm:Marks l)(i:Nat)(hi:firstM l=some i)(w:World)(hT:fP w):
  Calls Tryz.prog 250 #[.int .u64 ((w8 l:Nat):Int)] w fun e w'=>e= .returned (.int .i64 ((8*i+7:Nat):Int))∧w=w':=by
 have h8:i<8:=by have:=FW hi;omega
 have hT1:=hT i h8
 have h0:(((w8 l:Nat):Int)==0)=false:=by
  rw[beq_eq_false_iff_ne];intro h0;rw[(pI hm).1 (by omega)]at hi;cases hi
 have hT':w.cell? ⟨17,(IntKind.u64.wrap (bits .and .u64 ((w8 l:Nat):Int) (IntKind.u64.wrap (-((w8 l:Nat):Int)))*285870213051353865)/288230376151711744).toNat,none⟩=some (.int .u8 ((8*i+7:Nat):Int)):=by
  rw[QB hm hl hi];exact hT1
 have hlt:IntKind.u64.wrap (bits .and .u64 ((w8 l:Nat):Int) (IntKind.u64.wrap (-((w8 l:Nat):Int)))*285870213051353865)/288230376151711744<64:=by
  rw[QC hm hl hi];have:=X0 i;omega
 have hge:0≤IntKind.u64.wrap (bits .and .u64 ((w8 l:Nat):Int) (IntKind.u64.wrap (-((w8 l:Nat):Int)))*285870213051353865)/288230376151711744:=by
  rw[QC hm hl hi];omega
 clear hT1 hT hm hi hl;go_in;go_wp2;go_ret;exact⟨gJ (by omega),rfl⟩
theorem yN (l:List Nat)(hl:l.length=8)(hb:Bytes l)(i:Nat)(hi:firstM (l.map eu)=some i)(w:World)(hT:fP w):
  Calls Tryz.prog 214 #[.int .u64 ((w8 l:Nat):Int)] w fun e w'=>e= .returned (nI i)∧w=w':=by
 have hm:=rD l
 have hlm:(l.map eu).length=8:=by simpa using hl
 have h0:(((w8 (l.map eu):Nat):Int)==0)=false:=by
  rw[beq_eq_false_iff_ne];intro h0;rw[(pI hm).1 (by omega)]at hi;cases hi
 have HT:=qd (aaV (l.map eu) hlm hm i hi w hT);have HH:=qd (vo l hl hb w)
 have hp:(0:Int)≤8*(i:Int)+7:=by omega
 have hp2:8*(i:Int)+7≤1000000:=by have:=FW hi;omega
 clear hl hb hi hm hlm hT;go_in;go_wp2_with fail;refine HH.out.mono ?_;rintro e w1 ⟨rfl,rfl⟩;go_wp2_with fail;refine HT.out.mono ?_;rintro e w1 ⟨rfl,rfl⟩;go_wp2;go_ret;exact⟨gJ (by omega),rfl⟩
theorem Hg (l:List Nat)(hl:l.length=8)(hb:Bytes l)(hi:firstM (l.map eu)=none)(w:World):
  Calls Tryz.prog 214 #[.int .u64 ((w8 l:Nat):Int)] w fun e w'=>e= .returned (.int .i64 (-1))∧w=w':=by
 have h0:(((w8 (l.map eu):Nat):Int)==0)=true:=by
  rw[beq_iff_eq,(pI (rD l)).2 hi];rfl
 have HH:=qd (vo l hl hb w);clear hl hb hi;go_in;go_wp2_with fail;refine HH.out.mono ?_;rintro e w1 ⟨rfl,rfl⟩;go_wp2;go_ret;exact⟨rfl,rfl⟩
def uF:Option Nat→Int
 |some i=>(i:Int)
 |none=> -1
theorem R5 (l:List Nat)(hl:l.length=8)(hb:Bytes l)(w:World)(hT:fP w):
  Calls Tryz.prog 214 #[.int .u64 ((w8 l:Nat):Int)] w fun e w'=>e= .returned (.int .i64 (uF (firstM (l.map eu))))∧w=w':=by
 cases h:firstM (l.map eu)with
 |some i=>exact yN l hl hb i h w hT
 |none=>exact Hg l hl hb h w
theorem X3 (w:World):Calls Tryz.prog 247 #[] w fun e w'=>e= .returned (.int .u64 ((uD 128:Nat):Int))∧w=w':=by
 have HR:=qd (EJ 128 (by omega) w);go_in;go_wp2_with fail;refine HR.out.mono ?_;rintro e w1 ⟨rfl,rfl⟩;go_wp2;go_ret;exact⟨rfl,rfl⟩
theorem MR (b:Nat)(hb:b<256)(h:b≤128∨b=254)(w:World):Calls Tryz.prog 271 #[.int .u8 (b:Int)] w fun e w'=>e= .returned (.bool true)∧w=w':=by
 rcases h with h|rfl
 ·have h':(b:Int)≤128:=by omega
  go_in;go_wp2;go_ret;exact⟨rfl,rfl⟩
 ·go_in;go_wp2;go_ret;exact⟨rfl,rfl⟩
theorem FZ (l:List Nat)(hb:Bytes l)(i:Nat)(hi:i<8)(w:World):Calls Tryz.prog 221 #[.int .u64 ((w8 l:Nat):Int),nI i] w fun e w'=>e= .returned (.int .u8 ((l.getD i 0:Nat):Int))∧w=w':=by
 have HR:=qd (Uz l hb i hi w);clear hb hi;go_in;go_wp2_with fail;refine HR.out.mono ?_;rintro e w1 ⟨rfl,rfl⟩;go_wp2;go_ret;exact⟨rfl,rfl⟩
theorem X4 (l:List Nat)(hl:l.length=8)(hb:Bytes l)(i b:Nat)(hi:i<8)(nQ:b<256)(h:b≤128∨b=254)(w:World):Calls Tryz.prog 254 #[.int .u64 ((w8 l:Nat):Int),nI i,.int .u8 (b:Int)] w fun e w'=>e= .returned (.tuple #[.int .u64 ((w8 (l.set i b):Nat):Int),.nilIface])∧∃n,w'=w.drewN n:=by
 have HR:=qd (UA l hl hb i b hi nQ w);have HC:=qd (MR b nQ h w)
 have hi':(i:Int)<8:=by omega
 clear hb hi hl nQ h;go_in;go_wp2_with fail;refine HC.out.mono ?_;rintro e w1 ⟨rfl,rfl⟩;go_wp2_with fail;refine HR.out.mono ?_;rintro e w1 ⟨rfl,n,rfl⟩;go_wp2;go_ret2;exact⟨rfl,n,rfl⟩
theorem R6 (l:List Nat)(hl:l.length=8)(hb:Bytes l)(b:Nat)(nQ:b<128)(w:World):Calls Tryz.prog 217 #[.int .u64 ((w8 l:Nat):Int),.int .u8 (b:Int)] w fun e w'=>e= .returned (.int .u64 ((w8 (l.map (kU b)):Nat):Int))∧w=w':=by
 have HR:=qd (Hf l hl hb b (by omega) w)
 have hb':(b:Int)<128:=by omega
 clear hb hl nQ;go_in;go_wp2_with fail;refine HR.out.mono ?_;rintro e w1 ⟨rfl,rfl⟩;go_wp2;go_ret;exact⟨rfl,rfl⟩
theorem MS (l:List Nat)(hl:l.length=8)(hb:Bytes l)(w:World):Calls Tryz.prog 219 #[.int .u64 ((w8 l:Nat):Int)] w fun e w'=>e= .returned (.int .u64 ((w8 (l.map (kU 128)):Nat):Int))∧w=w':=by
 have HR:=qd (show Calls Tryz.prog 252 #[.int .u64 ((w8 l:Nat):Int),.int .u8 128] w fun e w'=>e= .returned (.int .u64 ((w8 (l.map (kU 128)):Nat):Int))∧w=w' from Hf l hl hb 128 (by omega) w);clear hb hl;go_in;go_wp2_with fail;refine HR.out.mono ?_;rintro e w1 ⟨rfl,rfl⟩;go_wp2;go_ret;exact⟨rfl,rfl⟩
theorem R7 (l:List Nat)(hl:l.length=8)(hb:Bytes l)(w:World):Calls Tryz.prog 215 #[.int .u64 ((w8 l:Nat):Int)] w fun e w'=>e= .returned (.int .u64 ((w8 (l.map eu):Nat):Int))∧w=w':=by
 have HR:=qd (vo l hl hb w);clear hb hl;go_in;go_wp2_with fail;refine HR.out.mono ?_;rintro e w1 ⟨rfl,rfl⟩;go_wp2;go_ret;exact⟨rfl,rfl⟩
def CJ (l:List Nat):List Nat:=l.map fun a=>255-a
def qI (l:List Nat):List Nat:=(CJ l).map eu
theorem R8 {l:List Nat}(hb:Bytes l)(hl:l.length=8):bits .xor .u64 IntKind.u64.max ((w8 l:Nat):Int)=((w8 (CJ l):Nat):Int):=by
 unfold CJ;rw[uP _ (rA hb hl),Cz l hb,hl]
theorem R9 (l:List Nat)(hl:l.length=8)(hb:Bytes l)(w:World):Calls Tryz.prog 278 #[.int .u64 ((w8 l:Nat):Int)] w fun e w'=>e= .returned (.int .u64 ((w8 (qI l):Nat):Int))∧w=w':=by
 have HR:=qd (show Calls Tryz.prog 249 #[.int .u64 ((w8 (CJ l):Nat):Int)] w fun e w'=>e= .returned (.int .u64 ((w8 (qI l):Nat):Int))∧w=w' from vo (CJ l) (by simpa[CJ]using hl) (Cy (fun a _=>by omega) hb) w);have HV:=qd (R8 hb hl);clear hb hl;go_in;go_wp2_with fail;rw[HV.out];refine HR.out.mono ?_;rintro e w1 ⟨rfl,rfl⟩;go_wp2;go_ret;exact⟨rfl,rfl⟩
end Go.Proofs.YtnfjjbpmhcbelaaGreatDoor

/-! Groups of slots and tables of groups: where a key is sought, and what a write does. No program in sight. -/
namespace Go.Proofs.YtnfjjbpmhcbelaaGreatDoor.dI
set_option maxRecDepth 100000
set_option maxHeartbeats 400000
open Go Go.RowKit dI
variable {α : Type} {i n s : Nat}
theorem getD_in {l:List α}{d:α}(hi:i<l.length):l.getD i d=l[i]:=by rw[List.getD_eq_getElem?_getD,List.getElem?_eq_getElem hi];rfl
theorem A8 {l:List α}{d:α}(hi:l.length≤i):l.getD i d=d:=by rw[List.getD_eq_getElem?_getD,List.getElem?_eq_none hi];rfl
structure av where
 key:Nat
 val:Nat
 hash:Nat
deriving DecidableEq
inductive Slot where
 |empty
 |qm
 |full (e:av)
deriving DecidableEq
abbrev kP:=List Slot
def Slot.byte:Slot→Nat
 | .empty=>128
 | .qm=>254
 | .full e=>e.hash % 128
def Slot.ents:Slot→List av
 | .full e=> [e]
 |_=> []
def Slot.isFull:Slot→Bool
 | .full _=>true
 |_=>false
def Slot.iL:Slot→Bool
 | .qm=>true
 |_=>false
def Slot.isEmpty:Slot→Bool
 | .empty=>true
 |_=>false
def Slot.isKey (key hash:Nat):Slot→Bool
 | .full e=>e.hash % 128==hash % 128 && e.key==key
 |_=>false
theorem aaW (s:Slot):s.byte<256:=by cases s<;>simp[Slot.byte];omega
theorem UC (G:kP):Bytes (G.map Slot.byte):=fun b hb=>by
 obtain⟨s,_,rfl⟩:=List.mem_map.1 hb;exact aaW s
def word (G:kP):Nat:=w8 (G.map Slot.byte)
def dH (G:kP):Bool:=G.any Slot.isEmpty
def gT (G:kP)(key hash:Nat):Option Nat:=G.findIdx? (Slot.isKey key hash)
def kW (G:kP):Option Nat:=G.findIdx? fun s=> !s.isFull
def bT (G:kP):List av:=G.flatMap Slot.ents
abbrev Tab:=List kP
def aF (gs:Tab)(i s:Nat):Slot:=(gs.getD i []).getD s .empty
def putAt (gs:Tab)(i s:Nat)(x:Slot):Tab:=gs.set i ((gs.getD i []).set s x)
def aM (gs:Tab):List av:=gs.flatMap bT
def eT (gs:Tab):Nat:=(gs.map fun G=>G.countP Slot.iL).sum
def qP (gs:Tab):Prop:=∀G∈gs,G.length=8
theorem qP.at_ {gs:Tab}(h:qP gs)(hi:i<gs.length):(gs.getD i []).length=8:=by
 rw[List.getD_eq_getElem?_getD,List.getElem?_eq_getElem hi];exact h _ (List.getElem_mem hi)
theorem qP.put {gs:Tab}(h:qP gs)(i s:Nat)(x:Slot):qP (putAt gs i s x):=by
 intro G hG;unfold putAt at hG;by_cases hi:i<gs.length
 ·rcases List.mem_or_eq_of_mem_set hG with hG|rfl
  ·exact h G hG
  ·rw[List.length_set];exact h.at_ hi
 ·rw[List.set_eq_of_length_le (by omega)]at hG;exact h G hG
theorem gY (gs:Tab)(i s:Nat)(x:Slot):(putAt gs i s x).length=gs.length:=by simp[putAt]
theorem Hl (gs:Tab)(i s:Nat)(x:Slot)(j:Nat)(hi:i<gs.length):(putAt gs i s x).getD j []=if i=j then(gs.getD i []).set s x else gs.getD j []:=by
 unfold putAt;rw[List.getD_eq_getElem?_getD,List.getElem?_set];by_cases h:i=j
 ·subst h;rw[if_pos rfl,if_pos rfl,if_pos hi];rfl
 ·rw[if_neg h,if_neg h,←List.getD_eq_getElem?_getD]
theorem kX (gs:Tab)(i s:Nat)(x:Slot)(j k:Nat)(hi:i<gs.length)(hs:s<(gs.getD i []).length):aF (putAt gs i s x) j k=if i=j∧s=k then x else aF gs j k:=by
 unfold aF;rw[Hl gs i s x j hi];by_cases h:i=j
 ·subst h;rw[if_pos rfl,List.getD_eq_getElem?_getD,List.getElem?_set];by_cases hk:s=k
  ·subst hk;rw[if_pos rfl,if_pos hs,if_pos ⟨rfl,rfl⟩];rfl
  ·rw[if_neg hk,if_neg (by omega),←List.getD_eq_getElem?_getD]
 ·rw[if_neg h,if_neg (by omega)]
theorem jY {gs:Tab}(h:aF gs i s≠ .empty):i<gs.length∧s<(gs.getD i []).length:=by
 constructor
 ·rcases Nat.lt_or_ge i gs.length with hlt|hge
  ·exact hlt
  ·exact absurd (by unfold aF;rw[A8 (l:=gs) hge];rfl) h
 ·rcases Nat.lt_or_ge s (gs.getD i []).length with hlt|hge
  ·exact hlt
  ·exact absurd (by unfold aF;rw[A8 hge]) h
theorem Ba {gs:Tab}(hs:s<(gs.getD i []).length):(gs.getD i [])[s]?=some (aF gs i s):=by
 unfold aF;rw[getD_in hs,List.getElem?_eq_getElem hs]
theorem xM {l:List α}{d:α}(hi:i<l.length):l=l.take i++l.getD i d::l.drop (i+1):=by
 have h:l.getD i d=l[i]:=by rw[List.getD_eq_getElem?_getD,List.getElem?_eq_getElem hi];rfl
 rw[h,←List.drop_eq_getElem_cons hi,List.take_append_drop]
theorem oH {l:List α}(hi:i<l.length)(x:α):l.set i x=l.take i++x::l.drop (i+1):=by
 rw[List.set_eq_take_append_cons_drop,if_pos hi]
theorem EL {gs:Tab}(hi:i<gs.length)(hs:s<(gs.getD i []).length):∃r1 r2,aM gs=r1++((aF gs i s).ents++r2)∧∀x,aM (putAt gs i s x)=r1++(x.ents++r2):=by
 refine⟨aM (gs.take i)++bT ((gs.getD i []).take s),bT ((gs.getD i []).drop (s+1))++aM (gs.drop (i+1)), ?_,fun x=> ?_⟩
 ·conv=>lhs;rw[xM (d:=[]) hi,xM (d:= .empty) hs]
  simp[aM,bT,aF]
 ·unfold putAt;rw[oH hi,oH hs];simp[aM,bT]
theorem CK {gs:Tab}(hi:i<gs.length)(hs:s<(gs.getD i []).length)(x:Slot):((aF gs i s).ents++aM (putAt gs i s x)).Perm (x.ents++aM gs):=by
 obtain⟨r1,r2,h1,h2⟩:=EL hi hs;rw[h1,h2];generalize(aF gs i s).ents=a
 have e1:(a++(r1++(x.ents++r2))).Perm (x.ents++(a++(r1++r2))):=by
  have:=(List.perm_append_comm (l₁:=r1) (l₂:=x.ents)).append_right r2;rw[List.append_assoc,List.append_assoc]at this;refine(this.append_left a).trans ?_;have h3:=(List.perm_append_comm (l₁:=a) (l₂:=x.ents)).append_right (r1++r2);rw[List.append_assoc,List.append_assoc]at h3;exact h3
 refine e1.trans (List.Perm.append_left _ ?_);have:=(List.perm_append_comm (l₁:=a) (l₂:=r1)).append_right r2;rw[List.append_assoc,List.append_assoc]at this;exact this
def Slot.kJ (x:Slot):Nat:=if x.iL then 1 else 0
theorem wU {gs:Tab}(hi:i<gs.length)(hs:s<(gs.getD i []).length)(x:Slot):(aF gs i s).kJ+eT (putAt gs i s x)=x.kJ+eT gs:=by
 have e1:eT gs=(eT (gs.take i)+(List.countP Slot.iL ((gs.getD i []).take s)+((aF gs i s).kJ+List.countP Slot.iL ((gs.getD i []).drop (s+1)))))+eT (gs.drop (i+1)):=by
  conv=>lhs;rw[xM (d:=[]) hi,xM (d:= .empty) hs]
  simp[eT,aF,Slot.kJ,List.countP_cons]
  split<;>omega
 have e2:eT (putAt gs i s x)=(eT (gs.take i)+(List.countP Slot.iL ((gs.getD i []).take s)+(x.kJ+List.countP Slot.iL ((gs.getD i []).drop (s+1)))))+eT (gs.drop (i+1)):=by
  unfold putAt;rw[oH hi,oH hs];simp[eT,Slot.kJ,List.countP_cons]
  split<;>omega
 omega
theorem rG {gs:Tab}{e:av}:e∈aM gs↔∃i s,aF gs i s= .full e:=by
 unfold aM bT;simp only[List.mem_flatMap];constructor
 ·rintro⟨G,hG,x,hx,he⟩;obtain⟨i,hi,rfl⟩:=List.mem_iff_getElem.1 hG;obtain⟨s,hs,rfl⟩:=List.mem_iff_getElem.1 hx;refine⟨i,s, ?_⟩
  have h1:gs.getD i []=gs[i]:=by rw[List.getD_eq_getElem?_getD,List.getElem?_eq_getElem hi];rfl
  have h2:aF gs i s=gs[i][s]:=by unfold aF;rw[h1,List.getD_eq_getElem?_getD,List.getElem?_eq_getElem hs];rfl
  rw[h2];revert he
  cases gs[i][s]<;>simp[Slot.ents]
  exact fun h=>h.symm
 ·rintro⟨i,s,h⟩;obtain⟨hi,hs⟩:=jY (gs:=gs) (i:=i) (s:=s) (by rw[h];exact fun h=>by cases h)
  have h1:gs.getD i []=gs[i]:=by rw[List.getD_eq_getElem?_getD,List.getElem?_eq_getElem hi];rfl
  refine⟨gs.getD i [],by rw[h1];exact List.getElem_mem hi,aF gs i s, ?_,by rw[h];simp[Slot.ents]⟩;exact List.mem_of_getElem? (Ba hs)
def Ho (j:Nat):Nat:=j*(j+1)/2
def bZ (h n j:Nat):Nat:=(h+Ho j) % n
def walk (h n:Nat):List Nat:=(List.range n).map (bZ h n)
def Pw (n:Nat):Prop:=n=1∨n=2∨n=4∨n=8∨n=16∨n=32∨n=64
theorem aaX (h:Pw n):∀d,d<n→∃j,j<n∧Ho j % n=d:=by
 have H:∀n∈[1,2,4,8,16,32,64],∀d:Fin n,(List.range n).any (fun j=>Ho j % n==d.val)=true:=by decide+kernel
 intro d hd;have:=H n (by unfold Pw at h;simp;omega) ⟨d,hd⟩;rw[List.any_eq_true]at this;obtain⟨j,hj,he⟩:=this;exact⟨j,List.mem_range.1 hj,by simpa using he⟩
theorem Pw.pos (h:Pw n):0<n:=by unfold Pw at h;omega
theorem Pw.le (h:Pw n):n≤64:=by unfold Pw at h;omega
theorem X5 (hn:Pw n)(h i:Nat)(hi:i<n):∃j,j<n∧bZ h n j=i:=by
 obtain⟨j,hj,he⟩:=aaX hn ((i+n-h % n) % n) (Nat.mod_lt _ hn.pos);refine⟨j,hj, ?_⟩;unfold bZ;have hm:=Nat.mod_lt h hn.pos;rw[Nat.add_mod,he,Nat.add_mod_mod,show h % n+(i+n-h % n)=i+n by omega,Nat.add_mod_right,Nat.mod_eq_of_lt hi]
def iH (fr:Option (Nat×Nat))(i:Nat)(G:kP):Option (Nat×Nat):=match fr with|some x=>some x|none=>(kW G).map fun s=>(i,s)
def iT (gs:Tab)(key hash:Nat):Nat→Nat→Option (Nat×Nat)→Option (Nat×Nat)×Option (Nat×Nat)×Nat
 |0,_,fr=>(none,fr,0)
 |f+1,j,fr=>
  let i:=bZ (hash/128) gs.length j
  let G:=gs.getD i []
  let fr':=iH fr i G
  match gT G key hash with
  |some s=>(some (i,s),fr',1)
  |none=>if dH G then(none,fr',1)else
   let r:=iT gs key hash f (j+1) fr'
   (r.1,r.2.1,r.2.2+1)
def aJ (gs:Tab)(key hash:Nat):Option (Nat×Nat)×Option (Nat×Nat)×Nat:=iT gs key hash gs.length 0 none
theorem zU (gs:Tab)(key hash:Nat):∀f j fr,(iT gs key hash f j fr).2.2≤f
 |0,_,_=>Nat.le_refl _
 |f+1,j,fr=>by
  unfold iT;simp only;split
  ·simp
  ·split
   ·simp
   ·have:=zU gs key hash f (j+1) (iH fr (bZ (hash/128) gs.length j) (gs.getD (bZ (hash/128) gs.length j) []));simp only;omega
end Go.Proofs.YtnfjjbpmhcbelaaGreatDoor.dI
