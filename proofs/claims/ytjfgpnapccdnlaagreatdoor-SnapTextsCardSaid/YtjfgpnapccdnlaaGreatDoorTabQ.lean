/- Words of eight lanes, and control words, by their contracts. -/
import Derived.Test.YtjfgpnapccdnlaaGreatDoorProg
import Derived.Test.YtjfgpnapccdnlaaGreatDoorBuilder
import Derived.Test.YtjfgpnapccdnlaaGreatDoorKit
import Derived.Test.YtjfgpnapccdnlaaGreatDoorLaneR
import Derived.Tactics
import Derived.Tactics2
import Derived.WalkKit
import Derived.WalkSpells
import Derived.WalkLawsBesides
import Derived.KernelRfl
import Derived.Outline
import Derived.IntWalk
import Derived.BigQuiet
import Derived.Deep.QuietTactic
namespace Go.Proofs.YtjfgpnapccdnlaaGreatDoor
set_option maxRecDepth 100000
set_option maxHeartbeats 400000
open Go.RowKit dF Go
theorem Ad {a b:Int}(h:a=b):Ending.returned (.int .u64 a)= .returned (.int .u64 b):=by rw[h]
theorem Fe (b:Nat)(hb:b<256)(w:World):Calls Tryz.prog 267 #[.int .u8 (b:Int)] w fun e w'=>e= .returned (.int .u64 ((uh b:Nat):Int))∧w=w':=by
 have HW:=qd (TA hb);go_in;go_wp2;go_ret;exact⟨Ad HW.out,rfl⟩
theorem abN (i:Nat)(w:World):Calls Tryz.prog 268 #[.int .i64 (i:Int)] w fun e w'=>e= .returned (.bool (decide (i<8)))∧w=w':=by
 by_cases h:i<8
 ·have h':(i:Int)<8:=by omega
  have HD:=qd (decide_eq_true h);go_in;go_wp2;go_ret;exact⟨jl (by first|exact HD.out.symm|rfl|simp[HD.out]),rfl⟩
 ·have h':¬(i:Int)<8:=by omega
  have HD:=qd (show decide (i<8)=false from decide_eq_false h);go_in;go_wp2;go_ret;exact⟨jl (by first|exact HD.out.symm|rfl|simp[HD.out]),rfl⟩
theorem Fg (i:Nat)(hi:i<8)(w:World):Calls Tryz.prog 268 #[.int .i64 (i:Int)] w fun e w'=>e= .returned (.bool true)∧w=w':=by
 have:=abN i w;rw[decide_eq_true hi]at this;exact this
theorem uT (l:List Nat)(hl:l.length=8)(hb:Bytes l)(w:World):Calls Tryz.prog 247 #[.int .u64 ((w8 l:Nat):Int)] w fun e w'=>e= .returned (.int .u64 ((w8 (l.map eB):Nat):Int))∧w=w':=by
 have HV:=qd (YK hb hl);clear hl hb;go_in;go_wp2;go_ret;exact⟨Ad HV.out,rfl⟩
theorem Ie (l:List Nat)(hl:l.length=8)(hb:Bytes l)(b:Nat)(ig:b<256)(w:World):Calls Tryz.prog 249 #[.int .u64 ((w8 l:Nat):Int),.int .u8 (b:Int)] w fun e w'=>e= .returned (.int .u64 ((w8 (l.map (kX b)):Nat):Int))∧w=w':=by
 have HR:=qd (fun W=>Fe b ig W);have HV:=qd (VN hb hl ig);clear hl hb;go_in;go_wp2_with fail;refine(HR.out _).mono ?_;rintro e w1 ⟨rfl,rfl⟩;go_wp2;go_ret;exact⟨Ad HV.out,rfl⟩
theorem VO (l:List Nat)(hb:Bytes l)(i:Nat)(hi:i<8)(w:World):Calls Tryz.prog 250 #[.int .u64 ((w8 l:Nat):Int),.int .i64 (i:Int)] w fun e w'=>e= .returned (.tuple #[.int .u8 ((l.getD i 0:Nat):Int),.bool true])∧w=w':=by
 have HR:=qd (fun W=>Fg i hi W);have HV:=qd (YL hb i);clear hb;go_in;go_wp2_with fail;refine(HR.out _).mono ?_;rintro e w1 ⟨rfl,rfl⟩;go_wp2;rw[HV.out];go_ret2;exact⟨rfl,rfl⟩
theorem VP (l:List Nat)(hl:l.length=8)(hb:Bytes l)(i b:Nat)(hi:i<8)(ig:b<256)(w:World):Calls Tryz.prog 270 #[.int .u64 ((w8 l:Nat):Int),.int .i64 (i:Int),.int .u8 (b:Int)] w fun e w'=>e= .returned (.int .u64 ((w8 (l.set i b):Nat):Int))∧∃n,w'=w.drewN n:=by
 have HR:=qd (fun W=>Fg i hi W);have HV:=qd (YN hb hl hi ig);clear hl hb;go_in;go_wp2_with fail;refine(HR.out _).mono ?_;rintro e w1 ⟨rfl,rfl⟩;go_wp2;go_quiet (fail);go_wp2;go_ret;exact⟨Ad HV.out,⟨_,rfl⟩⟩
def gF (w:World):Prop:=∀i,i<8→w.cell? ⟨21,pJ i,none⟩=some (.int .u8 ((8*i+7:Nat):Int))
theorem abO (l:List Nat)(hl:l.length=8)(hm:Marks l)(i:Nat)(hi:firstM l=some i)(w:World)(hT:gF w):
  Calls Tryz.prog 234 #[.int .u64 ((w8 l:Nat):Int)] w fun e w'=>e= .returned (.int .i64 ((8*i+7:Nat):Int))∧w=w':=by
 have h8:i<8:=by have:=Gj hi;omega
 have hT1:=hT i h8
 have h0:(((w8 l:Nat):Int)==0)=false:=by
  rw[beq_eq_false_iff_ne];intro h0;rw[(pI hm).1 (by omega)]at hi;cases hi
 have hT':w.cell? ⟨21,(IntKind.u64.wrap (bits .and .u64 ((w8 l:Nat):Int) (IntKind.u64.wrap (-((w8 l:Nat):Int)))*285870213051353865)/288230376151711744).toNat,none⟩=some (.int .u8 ((8*i+7:Nat):Int)):=by
  rw[RN hm hl hi];exact hT1
 have hlt:IntKind.u64.wrap (bits .and .u64 ((w8 l:Nat):Int) (IntKind.u64.wrap (-((w8 l:Nat):Int)))*285870213051353865)/288230376151711744<64:=by
  rw[RO hm hl hi];have:=YP i;omega
 have hge:0≤IntKind.u64.wrap (bits .and .u64 ((w8 l:Nat):Int) (IntKind.u64.wrap (-((w8 l:Nat):Int)))*285870213051353865)/288230376151711744:=by
  rw[RO hm hl hi];omega
 clear hT1 hT hm hi hl;go_in;go_wp2;go_ret;exact⟨gu (by omega),rfl⟩
theorem yT (l:List Nat)(hl:l.length=8)(hb:Bytes l)(i:Nat)(hi:firstM (l.map eB)=some i)(w:World)(hT:gF w):
  Calls Tryz.prog 204 #[.int .u64 ((w8 l:Nat):Int)] w fun e w'=>e= .returned (.int .i64 (i:Int))∧w=w':=by
 have hm:=qY l
 have hlm:(l.map eB).length=8:=by simpa using hl
 have h0:(((w8 (l.map eB):Nat):Int)==0)=false:=by
  rw[beq_eq_false_iff_ne];intro h0;rw[(pI hm).1 (by omega)]at hi;cases hi
 have HT:=qd (abO (l.map eB) hlm hm i hi w hT);have HH:=qd (uT l hl hb w)
 have hp:(0:Int)≤8*(i:Int)+7:=by omega
 have hp2:8*(i:Int)+7≤1000000:=by have:=Gj hi;omega
 clear hl hb hi hm hlm hT;go_in;go_wp2_with fail;refine HH.out.mono ?_;rintro e w1 ⟨rfl,rfl⟩;go_wp2_with fail;refine HT.out.mono ?_;rintro e w1 ⟨rfl,rfl⟩;go_wp2;go_ret;exact⟨gu (by omega),rfl⟩
theorem Ig (l:List Nat)(hl:l.length=8)(hb:Bytes l)(hi:firstM (l.map eB)=none)(w:World):
  Calls Tryz.prog 204 #[.int .u64 ((w8 l:Nat):Int)] w fun e w'=>e= .returned (.int .i64 (-1))∧w=w':=by
 have h0:(((w8 (l.map eB):Nat):Int)==0)=true:=by
  rw[beq_iff_eq,(pI (qY l)).2 hi];rfl
 have HH:=qd (uT l hl hb w);clear hl hb hi;go_in;go_wp2_with fail;refine HH.out.mono ?_;rintro e w1 ⟨rfl,rfl⟩;go_wp2;go_ret;exact⟨rfl,rfl⟩
def uj:Option Nat→Int
 |some i=>(i:Int)
 |none=> -1
theorem TB (l:List Nat)(hl:l.length=8)(hb:Bytes l)(w:World)(hT:gF w):
  Calls Tryz.prog 204 #[.int .u64 ((w8 l:Nat):Int)] w fun e w'=>e= .returned (.int .i64 (uj (firstM (l.map eB))))∧w=w':=by
 cases h:firstM (l.map eB)with
 |some i=>exact yT l hl hb i h w hT
 |none=>exact Ig l hl hb h w
theorem YQ (w:World):Calls Tryz.prog 245 #[] w fun e w'=>e= .returned (.int .u64 ((uh 128:Nat):Int))∧w=w':=by
 have HR:=qd (Fe 128 (by omega) w);go_in;go_wp2_with fail;refine HR.out.mono ?_;rintro e w1 ⟨rfl,rfl⟩;go_wp2;go_ret;exact⟨rfl,rfl⟩
theorem NT (b:Nat)(hb:b<256)(h:b≤128∨b=254)(w:World):Calls Tryz.prog 269 #[.int .u8 (b:Int)] w fun e w'=>e= .returned (.bool true)∧w=w':=by
 rcases h with h|rfl
 ·have h':(b:Int)≤128:=by omega
  go_in;go_wp2;go_ret;exact⟨rfl,rfl⟩
 ·go_in;go_wp2;go_ret;exact⟨rfl,rfl⟩
theorem Gl (l:List Nat)(hb:Bytes l)(i:Nat)(hi:i<8)(w:World):Calls Tryz.prog 211 #[.int .u64 ((w8 l:Nat):Int),.int .i64 (i:Int)] w fun e w'=>e= .returned (.int .u8 ((l.getD i 0:Nat):Int))∧w=w':=by
 have HR:=qd (VO l hb i hi w);clear hb hi;go_in;go_wp2_with fail;refine HR.out.mono ?_;rintro e w1 ⟨rfl,rfl⟩;go_wp2;go_ret;exact⟨rfl,rfl⟩
theorem YR (l:List Nat)(hl:l.length=8)(hb:Bytes l)(i b:Nat)(hi:i<8)(ig:b<256)(h:b≤128∨b=254)(w:World):Calls Tryz.prog 251 #[.int .u64 ((w8 l:Nat):Int),.int .i64 (i:Int),.int .u8 (b:Int)] w fun e w'=>e= .returned (.tuple #[.int .u64 ((w8 (l.set i b):Nat):Int),.nilIface])∧∃n,w'=w.drewN n:=by
 have HR:=qd (VP l hl hb i b hi ig w);have HC:=qd (NT b ig h w)
 have hi':(i:Int)<8:=by omega
 clear hb hi hl ig h;go_in;go_wp2_with fail;refine HC.out.mono ?_;rintro e w1 ⟨rfl,rfl⟩;go_wp2_with fail;refine HR.out.mono ?_;rintro e w1 ⟨rfl,n,rfl⟩;go_wp2;go_ret2;exact⟨rfl,n,rfl⟩
theorem TD (l:List Nat)(hl:l.length=8)(hb:Bytes l)(b:Nat)(ig:b<128)(w:World):Calls Tryz.prog 207 #[.int .u64 ((w8 l:Nat):Int),.int .u8 (b:Int)] w fun e w'=>e= .returned (.int .u64 ((w8 (l.map (kX b)):Nat):Int))∧w=w':=by
 have HR:=qd (Ie l hl hb b (by omega) w)
 have hb':(b:Int)<128:=by omega
 clear hb hl ig;go_in;go_wp2_with fail;refine HR.out.mono ?_;rintro e w1 ⟨rfl,rfl⟩;go_wp2;go_ret;exact⟨rfl,rfl⟩
theorem NU (l:List Nat)(hl:l.length=8)(hb:Bytes l)(w:World):Calls Tryz.prog 209 #[.int .u64 ((w8 l:Nat):Int)] w fun e w'=>e= .returned (.int .u64 ((w8 (l.map (kX 128)):Nat):Int))∧w=w':=by
 have HR:=qd (show Calls Tryz.prog 249 #[.int .u64 ((w8 l:Nat):Int),.int .u8 128] w fun e w'=>e= .returned (.int .u64 ((w8 (l.map (kX 128)):Nat):Int))∧w=w' from Ie l hl hb 128 (by omega) w);clear hb hl;go_in;go_wp2_with fail;refine HR.out.mono ?_;rintro e w1 ⟨rfl,rfl⟩;go_wp2;go_ret;exact⟨rfl,rfl⟩
theorem TF (l:List Nat)(hl:l.length=8)(hb:Bytes l)(w:World):Calls Tryz.prog 205 #[.int .u64 ((w8 l:Nat):Int)] w fun e w'=>e= .returned (.int .u64 ((w8 (l.map eB):Nat):Int))∧w=w':=by
 have HR:=qd (uT l hl hb w);clear hb hl;go_in;go_wp2_with fail;refine HR.out.mono ?_;rintro e w1 ⟨rfl,rfl⟩;go_wp2;go_ret;exact⟨rfl,rfl⟩
def CZ (l:List Nat):List Nat:=l.map fun a=>255-a
def qC (l:List Nat):List Nat:=(CZ l).map eB
theorem TH {l:List Nat}(hb:Bytes l)(hl:l.length=8):bits .xor .u64 IntKind.u64.max ((w8 l:Nat):Int)=((w8 (CZ l):Nat):Int):=by
 unfold CZ;rw[Fb _ (qW hb hl),CW l hb,hl]
theorem TI (l:List Nat)(hl:l.length=8)(hb:Bytes l)(w:World):Calls Tryz.prog 276 #[.int .u64 ((w8 l:Nat):Int)] w fun e w'=>e= .returned (.int .u64 ((w8 (qC l):Nat):Int))∧w=w':=by
 have HR:=qd (show Calls Tryz.prog 247 #[.int .u64 ((w8 (CZ l):Nat):Int)] w fun e w'=>e= .returned (.int .u64 ((w8 (qC l):Nat):Int))∧w=w' from uT (CZ l) (by simpa[CZ]using hl) (CV (fun a _=>by omega) hb) w);have HV:=qd (TH hb hl);clear hb hl;go_in;go_wp2_with fail;rw[HV.out];refine HR.out.mono ?_;rintro e w1 ⟨rfl,rfl⟩;go_wp2;go_ret;exact⟨rfl,rfl⟩
end Go.Proofs.YtjfgpnapccdnlaaGreatDoor

/-! Groups of slots and tables of groups: where a key is sought, and what a write does. No program in sight. -/
namespace Go.Proofs.YtjfgpnapccdnlaaGreatDoor.dF
set_option maxRecDepth 100000
set_option maxHeartbeats 400000
open Go.RowKit dF Go
variable {α : Type} {i n s : Nat}
theorem getD_in {l:List α}{d:α}(hi:i<l.length):l.getD i d=l[i]:=by rw[List.getD_eq_getElem?_getD,List.getElem?_eq_getElem hi];rfl
theorem Bl {l:List α}{d:α}(hi:l.length≤i):l.getD i d=d:=by rw[List.getD_eq_getElem?_getD,List.getElem?_eq_none hi];rfl
structure ay where
 key:Nat
 val:Nat
 hash:Nat
deriving DecidableEq
inductive Slot where
 |empty
 |qg
 |full (e:ay)
deriving DecidableEq
abbrev kK:=List Slot
def Slot.byte:Slot→Nat
 | .empty=>128
 | .qg=>254
 | .full e=>e.hash % 128
def Slot.ents:Slot→List ay
 | .full e=> [e]
 |_=> []
def Slot.isFull:Slot→Bool
 | .full _=>true
 |_=>false
def Slot.iD:Slot→Bool
 | .qg=>true
 |_=>false
def Slot.isEmpty:Slot→Bool
 | .empty=>true
 |_=>false
def Slot.isKey (key hash:Nat):Slot→Bool
 | .full e=>e.hash % 128==hash % 128 && e.key==key
 |_=>false
theorem abP (s:Slot):s.byte<256:=by cases s<;>simp[Slot.byte];omega
theorem VQ (G:kK):Bytes (G.map Slot.byte):=fun b hb=>by
 obtain⟨s,_,rfl⟩:=List.mem_map.1 hb;exact abP s
def word (G:kK):Nat:=w8 (G.map Slot.byte)
def dA (G:kK):Bool:=G.any Slot.isEmpty
def gJ (G:kK)(key hash:Nat):Option Nat:=G.findIdx? (Slot.isKey key hash)
def kY (G:kK):Option Nat:=G.findIdx? fun s=> !s.isFull
def bI (G:kK):List ay:=G.flatMap Slot.ents
abbrev Tab:=List kK
def aG (gs:Tab)(i s:Nat):Slot:=(gs.getD i []).getD s .empty
def putAt (gs:Tab)(i s:Nat)(x:Slot):Tab:=gs.set i ((gs.getD i []).set s x)
def aI (gs:Tab):List ay:=gs.flatMap bI
def eP (gs:Tab):Nat:=(gs.map fun G=>G.countP Slot.iD).sum
def qH (gs:Tab):Prop:=∀G∈gs,G.length=8
theorem qH.at_ {gs:Tab}(h:qH gs)(hi:i<gs.length):(gs.getD i []).length=8:=by
 rw[List.getD_eq_getElem?_getD,List.getElem?_eq_getElem hi];exact h _ (List.getElem_mem hi)
theorem qH.put {gs:Tab}(h:qH gs)(i s:Nat)(x:Slot):qH (putAt gs i s x):=by
 intro G hG;unfold putAt at hG;by_cases hi:i<gs.length
 ·rcases List.mem_or_eq_of_mem_set hG with hG|rfl
  ·exact h G hG
  ·rw[List.length_set];exact h.at_ hi
 ·rw[List.set_eq_of_length_le (by omega)]at hG;exact h G hG
theorem gM (gs:Tab)(i s:Nat)(x:Slot):(putAt gs i s x).length=gs.length:=by simp[putAt]
theorem Ii (gs:Tab)(i s:Nat)(x:Slot)(j:Nat)(hi:i<gs.length):(putAt gs i s x).getD j []=if i=j then(gs.getD i []).set s x else gs.getD j []:=by
 unfold putAt;rw[List.getD_eq_getElem?_getD,List.getElem?_set];by_cases h:i=j
 ·subst h;rw[if_pos rfl,if_pos rfl,if_pos hi];rfl
 ·rw[if_neg h,if_neg h,←List.getD_eq_getElem?_getD]
theorem kZ (gs:Tab)(i s:Nat)(x:Slot)(j k:Nat)(hi:i<gs.length)(hs:s<(gs.getD i []).length):aG (putAt gs i s x) j k=if i=j∧s=k then x else aG gs j k:=by
 unfold aG;rw[Ii gs i s x j hi];by_cases h:i=j
 ·subst h;rw[if_pos rfl,List.getD_eq_getElem?_getD,List.getElem?_set];by_cases hk:s=k
  ·subst hk;rw[if_pos rfl,if_pos hs,if_pos ⟨rfl,rfl⟩];rfl
  ·rw[if_neg hk,if_neg (by omega),←List.getD_eq_getElem?_getD]
 ·rw[if_neg h,if_neg (by omega)]
theorem j6 {gs:Tab}(h:aG gs i s≠ .empty):i<gs.length∧s<(gs.getD i []).length:=by
 constructor
 ·rcases Nat.lt_or_ge i gs.length with hlt|hge
  ·exact hlt
  ·exact absurd (by unfold aG;rw[Bl (l:=gs) hge];rfl) h
 ·rcases Nat.lt_or_ge s (gs.getD i []).length with hlt|hge
  ·exact hlt
  ·exact absurd (by unfold aG;rw[Bl hge]) h
theorem Bn {gs:Tab}(hs:s<(gs.getD i []).length):(gs.getD i [])[s]?=some (aG gs i s):=by
 unfold aG;rw[getD_in hs,List.getElem?_eq_getElem hs]
theorem xO {l:List α}{d:α}(hi:i<l.length):l=l.take i++l.getD i d::l.drop (i+1):=by
 have h:l.getD i d=l[i]:=by rw[List.getD_eq_getElem?_getD,List.getElem?_eq_getElem hi];rfl
 rw[h,←List.drop_eq_getElem_cons hi,List.take_append_drop]
theorem oH {l:List α}(hi:i<l.length)(x:α):l.set i x=l.take i++x::l.drop (i+1):=by
 rw[List.set_eq_take_append_cons_drop,if_pos hi]
theorem Fh {gs:Tab}(hi:i<gs.length)(hs:s<(gs.getD i []).length):∃r1 r2,aI gs=r1++((aG gs i s).ents++r2)∧∀x,aI (putAt gs i s x)=r1++(x.ents++r2):=by
 refine⟨aI (gs.take i)++bI ((gs.getD i []).take s),bI ((gs.getD i []).drop (s+1))++aI (gs.drop (i+1)), ?_,fun x=> ?_⟩
 ·conv=>lhs;rw[xO (d:=[]) hi,xO (d:= .empty) hs]
  simp[aI,bI,aG]
 ·unfold putAt;rw[oH hi,oH hs];simp[aI,bI]
theorem C8 {gs:Tab}(hi:i<gs.length)(hs:s<(gs.getD i []).length)(x:Slot):((aG gs i s).ents++aI (putAt gs i s x)).Perm (x.ents++aI gs):=by
 obtain⟨r1,r2,h1,h2⟩:=Fh hi hs;rw[h1,h2];generalize(aG gs i s).ents=a
 have e1:(a++(r1++(x.ents++r2))).Perm (x.ents++(a++(r1++r2))):=by
  have:=(List.perm_append_comm (l₁:=r1) (l₂:=x.ents)).append_right r2;rw[List.append_assoc,List.append_assoc]at this;refine(this.append_left a).trans ?_;have h3:=(List.perm_append_comm (l₁:=a) (l₂:=x.ents)).append_right (r1++r2);rw[List.append_assoc,List.append_assoc]at h3;exact h3
 refine e1.trans (List.Perm.append_left _ ?_);have:=(List.perm_append_comm (l₁:=a) (l₂:=r1)).append_right r2;rw[List.append_assoc,List.append_assoc]at this;exact this
def Slot.kI (x:Slot):Nat:=if x.iD then 1 else 0
theorem wP {gs:Tab}(hi:i<gs.length)(hs:s<(gs.getD i []).length)(x:Slot):(aG gs i s).kI+eP (putAt gs i s x)=x.kI+eP gs:=by
 have e1:eP gs=(eP (gs.take i)+(List.countP Slot.iD ((gs.getD i []).take s)+((aG gs i s).kI+List.countP Slot.iD ((gs.getD i []).drop (s+1)))))+eP (gs.drop (i+1)):=by
  conv=>lhs;rw[xO (d:=[]) hi,xO (d:= .empty) hs]
  simp[eP,aG,Slot.kI,List.countP_cons]
  split<;>omega
 have e2:eP (putAt gs i s x)=(eP (gs.take i)+(List.countP Slot.iD ((gs.getD i []).take s)+(x.kI+List.countP Slot.iD ((gs.getD i []).drop (s+1)))))+eP (gs.drop (i+1)):=by
  unfold putAt;rw[oH hi,oH hs];simp[eP,Slot.kI,List.countP_cons]
  split<;>omega
 omega
theorem qZ {gs:Tab}{e:ay}:e∈aI gs↔∃i s,aG gs i s= .full e:=by
 unfold aI bI;simp only[List.mem_flatMap];constructor
 ·rintro⟨G,hG,x,hx,he⟩;obtain⟨i,hi,rfl⟩:=List.mem_iff_getElem.1 hG;obtain⟨s,hs,rfl⟩:=List.mem_iff_getElem.1 hx;refine⟨i,s, ?_⟩
  have h1:gs.getD i []=gs[i]:=by rw[List.getD_eq_getElem?_getD,List.getElem?_eq_getElem hi];rfl
  have h2:aG gs i s=gs[i][s]:=by unfold aG;rw[h1,List.getD_eq_getElem?_getD,List.getElem?_eq_getElem hs];rfl
  rw[h2];revert he
  cases gs[i][s]<;>simp[Slot.ents]
  exact fun h=>h.symm
 ·rintro⟨i,s,h⟩;obtain⟨hi,hs⟩:=j6 (gs:=gs) (i:=i) (s:=s) (by rw[h];exact fun h=>by cases h)
  have h1:gs.getD i []=gs[i]:=by rw[List.getD_eq_getElem?_getD,List.getElem?_eq_getElem hi];rfl
  refine⟨gs.getD i [],by rw[h1];exact List.getElem_mem hi,aG gs i s, ?_,by rw[h];simp[Slot.ents]⟩;exact List.mem_of_getElem? (Bn hs)
def Ij (j:Nat):Nat:=j*(j+1)/2
def bR (h n j:Nat):Nat:=(h+Ij j) % n
def walk (h n:Nat):List Nat:=(List.range n).map (bR h n)
def Pw (n:Nat):Prop:=n=1∨n=2∨n=4∨n=8∨n=16∨n=32∨n=64
theorem abQ (h:Pw n):∀d,d<n→∃j,j<n∧Ij j % n=d:=by
 have H:∀n∈[1,2,4,8,16,32,64],∀d:Fin n,(List.range n).any (fun j=>Ij j % n==d.val)=true:=by decide+kernel
 intro d hd;have:=H n (by unfold Pw at h;simp;omega) ⟨d,hd⟩;rw[List.any_eq_true]at this;obtain⟨j,hj,he⟩:=this;exact⟨j,List.mem_range.1 hj,by simpa using he⟩
theorem Pw.pos (h:Pw n):0<n:=by unfold Pw at h;omega
theorem Pw.le (h:Pw n):n≤64:=by unfold Pw at h;omega
theorem YS (hn:Pw n)(h i:Nat)(hi:i<n):∃j,j<n∧bR h n j=i:=by
 obtain⟨j,hj,he⟩:=abQ hn ((i+n-h % n) % n) (Nat.mod_lt _ hn.pos);refine⟨j,hj, ?_⟩;unfold bR;have hm:=Nat.mod_lt h hn.pos;rw[Nat.add_mod,he,Nat.add_mod_mod,show h % n+(i+n-h % n)=i+n by omega,Nat.add_mod_right,Nat.mod_eq_of_lt hi]
def iA (fr:Option (Nat×Nat))(i:Nat)(G:kK):Option (Nat×Nat):=match fr with|some x=>some x|none=>(kY G).map fun s=>(i,s)
def iK (gs:Tab)(key hash:Nat):Nat→Nat→Option (Nat×Nat)→Option (Nat×Nat)×Option (Nat×Nat)×Nat
 |0,_,fr=>(none,fr,0)
 |f+1,j,fr=>
  let i:=bR (hash/128) gs.length j
  let G:=gs.getD i []
  let fr':=iA fr i G
  match gJ G key hash with
  |some s=>(some (i,s),fr',1)
  |none=>if dA G then(none,fr',1)else
   let r:=iK gs key hash f (j+1) fr'
   (r.1,r.2.1,r.2.2+1)
def aK (gs:Tab)(key hash:Nat):Option (Nat×Nat)×Option (Nat×Nat)×Nat:=iK gs key hash gs.length 0 none
theorem Ae (gs:Tab)(key hash:Nat):∀f j fr,(iK gs key hash f j fr).2.2≤f
 |0,_,_=>Nat.le_refl _
 |f+1,j,fr=>by
  unfold iK;simp only;split
  ·simp
  ·split
   ·simp
   ·have:=Ae gs key hash f (j+1) (iA fr (bR (hash/128) gs.length j) (gs.getD (bR (hash/128) gs.length j) []));simp only;omega
end Go.Proofs.YtjfgpnapccdnlaaGreatDoor.dF

/-! A table's laws: who is there is found where it stands; a free place is found; what writes leave. No program in sight. -/
namespace Go.Proofs.YtjfgpnapccdnlaaGreatDoor.dF
set_option maxRecDepth 100000
set_option maxHeartbeats 400000
open Go.RowKit dF Go
variable {α : Type} {hash i j k key s : Nat} {gs : Tab} {e : ay} {G : kK}
theorem Gm {p:α→Bool}{l:List α}(h:l.findIdx? p=some k):∃x,l[k]?=some x∧p x=true∧∀j y,j<k→l[j]?=some y→p y=false:=by
 obtain⟨hk,hp,hn⟩:=List.findIdx?_eq_some_iff_getElem.1 h;refine⟨l[k],List.getElem?_eq_getElem hk,hp,fun j y hj hy=> ?_⟩;obtain⟨hj2,rfl⟩:=List.getElem?_eq_some_iff.1 hy;simpa using hn j hj
theorem NV {p:α→Bool}{l:List α}(h:l.findIdx? p=none):∀x∈l,p x=false:=by
 intro x hx;have:=List.findIdx?_eq_none_iff.1 h x hx;simpa using this
theorem acY {p:α→Bool}{l:List α}{x:α}(hx:l[k]?=some x)(hp:p x=true)(hu:∀j y,l[j]?=some y→p y=true→j=k):l.findIdx? p=some k:=by
 cases h:l.findIdx? p with
 |none=>
  have:=NV h x (List.mem_of_getElem? hx);rw[hp]at this;cases this
 |some j=>
  obtain⟨y,h1,h2,_⟩:=Gm h;rw[hu j y h1 h2]
structure zG (gs:Tab):Prop where
 wide:qH gs
 pow:Pw gs.length
 uniq:∀i s i' s' e e',aG gs i s= .full e→aG gs i' s'= .full e'→e.key=e'.key→i=i'∧s=s'
 reach:∀i s e,aG gs i s= .full e→∃j,j<gs.length∧bR (e.hash/128) gs.length j=i∧∀j',j'<j→dA (gs.getD (bR (e.hash/128) gs.length j') [])=false
theorem full_of {x:Slot}(h:x.isKey key hash=true):∃e,x= .full e∧e.key=key∧e.hash % 128=hash % 128:=by
 cases x with
 |full e=>simp[Slot.isKey]at h;exact⟨e,rfl,h.2,h.1⟩
 |_=>simp[Slot.isKey]at h
theorem Ik (h:gJ (gs.getD i []) key hash=some s):∃e,aG gs i s= .full e∧e.key=key∧e.hash % 128=hash % 128:=by
 obtain⟨x,h1,h2,_⟩:=Gm h;obtain⟨e,rfl,h3,h4⟩:=full_of h2;obtain⟨hs,hx⟩:=List.getElem?_eq_some_iff.1 h1;refine⟨e, ?_,h3,h4⟩;unfold aG;rw[getD_in hs,hx]
theorem KI {x:Slot}(h:(gs.getD i [])[s]?=some x):aG gs i s=x:=by
 obtain⟨hs,hx⟩:=List.getElem?_eq_some_iff.1 h;unfold aG;rw[getD_in hs,hx]
theorem Af (gs:Tab)(key hash:Nat):∀f j fr i s,(iK gs key hash f j fr).1=some (i,s)→∃e,aG gs i s= .full e∧e.key=key∧e.hash % 128=hash % 128
 |0,_,_,_,_,h=>by simp[iK]at h
 |f+1,j,fr,i,s,h=>by
  unfold iK at h;simp only at h;split at h
  ·next s' hs'=>
   injection h with h
   injection h with h1 h2
   subst h1 h2;exact Ik hs'
  ·split at h
   ·cases h
   ·exact Af gs key hash f (j+1) _ i s h
theorem Il (h:(aK gs key hash).1=some (i,s)):∃e,aG gs i s= .full e∧e.key=key∧e.hash % 128=hash % 128:=Af gs key hash _ _ _ i s h
theorem Ag (hT:zG gs)(he:aG gs i s= .full e){t:Nat}(ht:bR (e.hash/128) gs.length t=i)(hm:∀j,j<t→bR (e.hash/128) gs.length j≠i)(hc:∀j,j<t→dA (gs.getD (bR (e.hash/128) gs.length j) [])=false):∀f j fr,j≤t→t<j+f→(iK gs e.key e.hash f j fr).1=some (i,s)
 |0,_,_,h1,h2=>by omega
 |f+1,j,fr,h1,h2=>by
  unfold iK;simp only;by_cases hj:j=t
  ·subst hj;rw[ht]
   have:gJ (gs.getD i []) e.key e.hash=some s:=by
    have hl:=(j6 (gs:=gs) (i:=i) (s:=s) (by rw[he];exact fun h=>by cases h)).2;refine acY (Bn hl) (by rw[he];simp[Slot.isKey]) fun k y hy hp=> ?_;obtain⟨e',rfl,h3,_⟩:=full_of hp;exact(hT.uniq i k i s e' e (KI hy) he h3).2
   rw[this]
  ·have hn:gJ (gs.getD (bR (e.hash/128) gs.length j) []) e.key e.hash=none:=by
    cases h:gJ (gs.getD (bR (e.hash/128) gs.length j) []) e.key e.hash with
    |none=>rfl
    |some k=>
     obtain⟨e',h3,h4,_⟩:=Ik h;exact absurd (hT.uniq _ _ _ _ e' e h3 he h4).1 (hm j (by omega))
   rw[hn];simp only;rw[if_neg (by rw[hc j (by omega)];simp)];exact Ag hT he ht hm hc f (j+1) _ (by omega) (by omega)
theorem YT {p:Nat→Prop}(h:p j):∃t,t≤j∧p t∧∀k,k<t→¬p k:=by
 induction j using Nat.strongRecOn with
 |ind j ih=>
  by_cases hk:∃k,k<j∧p k
  ·obtain⟨k,hk,hp⟩:=hk;obtain⟨t,h1,h2,h3⟩:=ih k hk hp;exact⟨t,by omega,h2,h3⟩
  ·exact⟨j,Nat.le_refl _,h,fun k hkj hp=>hk ⟨k,hkj,hp⟩⟩
theorem TJ (hT:zG gs)(he:aG gs i s= .full e):(aK gs e.key e.hash).1=some (i,s):=by
 obtain⟨j,hj,hw,hc⟩:=hT.reach i s e he;obtain⟨t,h1,h2,h3⟩:=YT (p:=fun j=>bR (e.hash/128) gs.length j=i) hw;exact Ag hT he h2 h3 (fun k hk=>hc k (by omega)) _ _ _ (Nat.zero_le _) (by omega)
theorem ru (h:∀e∈aI gs,e.key≠key):(aK gs key hash).1=none:=by
 cases hs:(aK gs key hash).1 with
 |none=>rfl
 |some x=>
  obtain⟨e,h1,h2,_⟩:=Il (i:=x.1) (s:=x.2) hs;exact absurd h2 (h e (qZ.2 ⟨_,_,h1⟩))
def uU (gs:Tab)(hash i s:Nat):Prop:=
 i<gs.length∧s<(gs.getD i []).length∧(aG gs i s).isFull=false∧∃j,j<gs.length∧bR (hash/128) gs.length j=i∧∀j',j'<j→dA (gs.getD (bR (hash/128) gs.length j') [])=false
theorem VR (h:dA G=true):∃s,kY G=some s:=by
 unfold dA at h;obtain⟨x,hx,he⟩:=List.any_eq_true.1 h
 cases hf:kY G with
 |some s=>exact⟨s,rfl⟩
 |none=>
  have:=NV hf x hx
  cases x<;>simp_all[Slot.isEmpty,Slot.isFull]
theorem free_at (hn:0<gs.length)(hj:j<gs.length)(hs:kY (gs.getD (bR (hash/128) gs.length j) [])=some s)(hc:∀j',j'<j→dA (gs.getD (bR (hash/128) gs.length j') [])=false):
  uU gs hash (bR (hash/128) gs.length j) s:=by
 obtain⟨x,h1,h2,_⟩:=Gm hs;obtain⟨hlt,_⟩:=List.getElem?_eq_some_iff.1 h1;refine⟨Nat.mod_lt _ hn,hlt, ?_,j,hj,rfl,hc⟩;rw[KI h1];simpa using h2
theorem Cm (hn:0<gs.length):∀f j fr,j+f=gs.length→
  (∀j',j'<j→dA (gs.getD (bR (hash/128) gs.length j') [])=false)→
  (match fr with|some x=>uU gs hash x.1 x.2|none=>∀j',j'<j→kY (gs.getD (bR (hash/128) gs.length j') [])=none)→
  (∃j,j<gs.length∧dA (gs.getD (bR (hash/128) gs.length j) [])=true)→
  (iK gs key hash f j fr).1=none→∃i s,(iK gs key hash f j fr).2.1=some (i,s)∧uU gs hash i s
 |0,j,fr,hj,hc,hf,ho,_=>by
  cases fr with
  |some x=>exact⟨x.1,x.2,rfl,hf⟩
  |none=>
   obtain⟨j',h1,h2⟩:=ho;have:=hc j' (by omega);rw[this]at h2;cases h2
 |f+1,j,fr,hj,hc,hf,ho,hnone=>by
  have hfr:∀fr',fr'=iA fr (bR (hash/128) gs.length j) (gs.getD (bR (hash/128) gs.length j) [])→
    (match fr' with|some x=>uU gs hash x.1 x.2|none=>∀j',j'<j+1→kY (gs.getD (bR (hash/128) gs.length j') [])=none):=by
   intro fr' Gn
   cases fr with
   |some x=>simp only[iA]at Gn;subst Gn;exact hf
   |none=>
    simp only[iA]at Gn hf
    cases hg:kY (gs.getD (bR (hash/128) gs.length j) [])with
    |some s=>
     rw[hg]at Gn;subst Gn;exact free_at hn (by omega) hg hc
    |none=>
     rw[hg]at Gn;subst Gn;intro j' hj';by_cases he:j'=j
     ·rw[he];exact hg
     ·exact hf j' (by omega)
  unfold iK at hnone⊢;simp only at hnone⊢;generalize VT:iA fr (bR (hash/128) gs.length j) (gs.getD (bR (hash/128) gs.length j) [])=fr' at hnone⊢;have hf':=hfr fr' VT.symm
  cases hfind:gJ (gs.getD (bR (hash/128) gs.length j) []) key hash with
  |some s=>rw[hfind]at hnone;cases hnone
  |none=>
   rw[hfind]at hnone;simp only at hnone⊢
   cases hop:dA (gs.getD (bR (hash/128) gs.length j) [])with
   |true=>
    simp only[if_true]
    cases fr' with
    |some x=>exact⟨x.1,x.2,rfl,hf'⟩
    |none=>
     obtain⟨s,hs⟩:=VR hop;rw[hf' j (by omega)]at hs;cases hs
   |false=>
    rw[hop]at hnone;simp only[Bool.false_eq_true,if_false]at hnone⊢
    exact Cm hn f (j+1) fr' (by omega) (fun j' hj'=>by
     by_cases he:j'=j
     ·rw[he];exact hop
     ·exact hc j' (by omega)) hf' ho hnone
theorem VU (hn:Pw gs.length)(ho:∃i,i<gs.length∧dA (gs.getD i [])=true)(h:(aK gs key hash).1=none):∃i s,(aK gs key hash).2.1=some (i,s)∧uU gs hash i s:=by
 obtain⟨i,hi,hop⟩:=ho;obtain⟨j,hj,hw⟩:=YS hn (hash/128) i hi;exact Cm hn.pos gs.length 0 none (by omega) (fun _ h=>by omega) (fun _ h=>by omega) ⟨j,hj,by rw[hw];exact hop⟩ h
theorem yU (G:kK):(bI G).length+G.countP Slot.iD+G.countP Slot.isEmpty=G.length:=by
 induction G with
 |nil=>rfl
 |cons x t ih=>
  have e:(bI (x::t)).length=x.ents.length+(bI t).length:=by simp[bI]
  rw[e,List.countP_cons,List.countP_cons,List.length_cons]
  cases x with
  |empty=>simp[Slot.ents,Slot.iD,Slot.isEmpty];omega
  |qg=>simp[Slot.ents,Slot.iD,Slot.isEmpty];omega
  |full e=>simp[Slot.ents,Slot.iD,Slot.isEmpty];omega
theorem Im (G:kK)(gs:Tab):aI (G::gs)=bI G++aI gs:=by simp[aI]
theorem zH (G:kK)(gs:Tab):eP (G::gs)=G.countP Slot.iD+eP gs:=by simp[eP]
theorem C9:∀{gs:Tab},qH gs→(aI gs).length+eP gs<8*gs.length→∃i,i<gs.length∧dA (gs.getD i [])=true
 | [],_,h=>by simp at h
 |G::gs,hw,h=>by
  cases ho:dA G with
  |true=>exact⟨0,by simp,by simpa using ho⟩
  |false=>
   have h0:G.countP Slot.isEmpty=0:=by
    rw[List.countP_eq_zero];intro x hx he;have:dA G=true:=List.any_eq_true.2 ⟨x,hx,he⟩;rw[ho]at this;cases this
   have h1:=yU G;have h2:=hw G (by simp);rw[Im,zH,List.length_append,List.length_cons]at h;obtain⟨i,hi,hop⟩:=C9 (gs:=gs) (fun x hx=>hw x (by simp[hx])) (by omega);exact⟨i+1,by simpa using hi,by simpa using hop⟩
theorem VW (hw:qH gs):(aI gs).length+eP gs≤8*gs.length:=by
 induction gs with
 |nil=>simp[aI,eP]
 |cons G t ih=>
  have h1:=yU G;have h2:=hw G (by simp);have h3:=ih (fun x hx=>hw x (by simp[hx]));rw[Im,zH,List.length_append,List.length_cons];omega
theorem MK {x:Slot}(hx:x.isEmpty=false)(h:dA G=false):dA (G.set s x)=false:=by
 unfold dA at h⊢;rw[List.any_eq_false]at h⊢;intro y hy;rcases List.mem_or_eq_of_mem_set hy with hy|rfl
 ·exact h y hy
 ·simp[hx]
theorem xP {x:Slot}(hi:i<gs.length)(hx:x.isEmpty=true→dA (gs.getD i [])=true)(h:dA (gs.getD k [])=false):dA ((putAt gs i s x).getD k [])=false:=by
 rw[Ii gs i s x k hi];by_cases he:i=k
 ·subst he;rw[if_pos rfl];refine MK ?_ h
  cases hxe:x.isEmpty with
  |false=>rfl
  |true=>rw[hx hxe]at h;cases h
 ·rw[if_neg he];exact h
theorem abR (hT:zG gs)(hf:uU gs e.hash i s)(hk:∀x∈aI gs,x.key≠e.key):zG (putAt gs i s (.full e)):=by
 obtain⟨hi,hs,_,j,hj,hw,hc⟩:=hf;refine⟨hT.wide.put _ _ _,by rw[gM];exact hT.pow,fun a b a' b' x x' h1 h2 h3=> ?_,fun a b x h1=> ?_⟩
 ·rw[kZ gs i s _ _ _ hi hs]at h1 h2
  by_cases c1:i=a∧s=b<;>by_cases c2:i=a'∧s=b'
  ·exact⟨by omega,by omega⟩
  ·rw[if_pos c1]at h1;rw[if_neg c2]at h2
   injection h1 with h1;subst h1
   exact absurd h3.symm (hk x' (qZ.2 ⟨_,_,h2⟩))
  ·rw[if_neg c1]at h1;rw[if_pos c2]at h2
   injection h2 with h2;subst h2
   exact absurd h3 (hk x (qZ.2 ⟨_,_,h1⟩))
  ·rw[if_neg c1]at h1;rw[if_neg c2]at h2;exact hT.uniq _ _ _ _ _ _ h1 h2 h3
 ·rw[kZ gs i s _ _ _ hi hs]at h1;rw[gM]
  have hE:(Slot.full e).isEmpty=true→dA (gs.getD i [])=true:=fun h=>by cases h
  by_cases c1:i=a∧s=b
  ·rw[if_pos c1]at h1
   injection h1 with h1;subst h1
   exact⟨j,hj,by rw[hw];exact c1.1,fun k hk=>xP hi hE (hc k hk)⟩
  ·rw[if_neg c1]at h1;obtain⟨j1,h4,h5,h6⟩:=hT.reach a b x h1;exact⟨j1,h4,h5,fun k hk=>xP hi hE (h6 k hk)⟩
theorem VX (hT:zG gs)(hi:i<gs.length)(hs:s<(gs.getD i []).length){x:Slot}(hx:x.isEmpty=true→dA (gs.getD i [])=true)(kg:∀e,x≠ .full e):zG (putAt gs i s x):=by
 refine⟨hT.wide.put _ _ _,by rw[gM];exact hT.pow,fun a b a' b' y y' h1 h2 h3=> ?_,fun a b y h1=> ?_⟩
 ·rw[kZ gs i s _ _ _ hi hs]at h1 h2;by_cases c1:i=a∧s=b
  ·rw[if_pos c1]at h1;exact absurd h1 (kg y)
  ·by_cases c2:i=a'∧s=b'
   ·rw[if_pos c2]at h2;exact absurd h2 (kg y')
   ·rw[if_neg c1]at h1;rw[if_neg c2]at h2;exact hT.uniq _ _ _ _ _ _ h1 h2 h3
 ·rw[kZ gs i s _ _ _ hi hs]at h1;rw[gM];by_cases c1:i=a∧s=b
  ·rw[if_pos c1]at h1;exact absurd h1 (kg y)
  ·rw[if_neg c1]at h1;obtain⟨j1,h4,h5,h6⟩:=hT.reach a b y h1;exact⟨j1,h4,h5,fun k hk=>xP hi hx (h6 k hk)⟩
theorem QS (hT:zG gs){e':ay}(he:aG gs i s= .full e)(hk:e'.key=e.key)(hh:e'.hash=e.hash):zG (putAt gs i s (.full e')):=by
 obtain⟨hi,hs⟩:=j6 (gs:=gs) (i:=i) (s:=s) (by rw[he];exact fun h=>by cases h);refine⟨hT.wide.put _ _ _,by rw[gM];exact hT.pow,fun a b a' b' x x' h1 h2 h3=> ?_,fun a b x h1=> ?_⟩
 ·rw[kZ gs i s _ _ _ hi hs]at h1 h2
  by_cases c1:i=a∧s=b<;>by_cases c2:i=a'∧s=b'
  ·exact⟨by omega,by omega⟩
  ·rw[if_pos c1]at h1;rw[if_neg c2]at h2
   injection h1 with h1;subst h1
   have:=hT.uniq _ _ _ _ _ _ he h2 (hk▸h3);omega
  ·rw[if_neg c1]at h1;rw[if_pos c2]at h2
   injection h2 with h2;subst h2
   have:=hT.uniq _ _ _ _ _ _ h1 he (by rw[h3,hk]);omega
  ·rw[if_neg c1]at h1;rw[if_neg c2]at h2;exact hT.uniq _ _ _ _ _ _ h1 h2 h3
 ·rw[kZ gs i s _ _ _ hi hs]at h1;rw[gM]
  have hE:(Slot.full e').isEmpty=true→dA (gs.getD i [])=true:=fun h=>by cases h
  by_cases c1:i=a∧s=b
  ·rw[if_pos c1]at h1
   injection h1 with h1;subst h1
   obtain⟨j1,h4,h5,h6⟩:=hT.reach i s e he;rw[hh];exact⟨j1,h4,by rw[h5];exact c1.1,fun k hk=>xP hi hE (h6 k hk)⟩
  ·rw[if_neg c1]at h1;obtain⟨j1,h4,h5,h6⟩:=hT.reach a b x h1;exact⟨j1,h4,h5,fun k hk=>xP hi hE (h6 k hk)⟩
def bare (n:Nat):Tab:=List.replicate n (List.replicate 8 .empty)
theorem zI (n i s:Nat):aG (bare n) i s= .empty:=by
 unfold aG bare;by_cases hi:i<n
 ·rw[getD_in (l:=List.replicate n (List.replicate 8 Slot.empty)) (by simpa using hi),List.getElem_replicate];by_cases hs:s<8
  ·rw[getD_in (by simpa using hs),List.getElem_replicate]
  ·rw[Bl (by simp;omega)]
 ·rw[Bl (l:=List.replicate n _) (by simp;omega)];rfl
theorem NW {n:Nat}(h:Pw n):zG (bare n):=by
 refine⟨fun G hG=> ?_,by simpa[bare]using h,fun i s i' s' e e' h1=> ?_,fun i s e h1=> ?_⟩
 ·unfold bare at hG;rw[(List.mem_replicate.1 hG).2];simp
 ·rw[zI]at h1;cases h1
 ·rw[zI]at h1;cases h1
end Go.Proofs.YtjfgpnapccdnlaaGreatDoor.dF
