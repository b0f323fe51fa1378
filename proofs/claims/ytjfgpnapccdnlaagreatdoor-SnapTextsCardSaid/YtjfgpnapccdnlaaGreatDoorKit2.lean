/- What a hash says, and in which order groups are looked at, by their contracts. -/
import Derived.Test.YtjfgpnapccdnlaaGreatDoorTabQ
import Derived.Test.YtjfgpnapccdnlaaGreatDoorBuilder
import Derived.Deep.RegionHeld3
import Derived.Deep.Cut
import Derived.Deep.CutRange
import Derived.Deep.RegionWith
import Derived.BigRegion
import Derived.StillTailTactics
import Derived.Laws.CopyOwn
import Derived.Laws.AppendOwn
import Derived.Shelf.Spec.SlicesInsert
import Derived.Test.YtjfgpnapccdnlaaGreatDoorKit
import Derived.WalkKit
import Derived.WalkSpells
import Derived.WalkLawsBesides
namespace Go.Proofs.YtjfgpnapccdnlaaGreatDoor
set_option maxRecDepth 100000
set_option maxHeartbeats 2000000
open Go.RowKit dF
section
variable {d h n : Nat}
theorem YU (h:Nat)(w:World):Calls Tryz.prog 138 #[.int .u64 (h:Int)] w fun e w'=>e= .returned (.int .u64 ((h/128:Nat):Int))∧w=w':=by
 go_in;go_wp2;go_ret;exact⟨Ad (by omega),rfl⟩
theorem acZ (h64:h<18446744073709551616):bits .and .u64 (h:Int) 127=((h % 128:Nat):Int):=by
 have:=bits_and_u64_nat h 127 h64 (by decide);rw[show(127:Nat)=2^7-1 by decide,Nat.and_two_pow_sub_one_eq_mod]at this;exact this
theorem NY (h:Nat)(h64:h<18446744073709551616)(w:World):Calls Tryz.prog 208 #[.int .u64 (h:Int)] w fun e w'=>e= .returned (.int .u8 ((h % 128:Nat):Int))∧w=w':=by
 have HV:=qd (acZ h64);clear h64;go_in;go_wp2;go_ret;exact⟨by rw[HV.out];refine gu ?_;omega,rfl⟩
theorem Bo (d:Nat)(hd:d≤16)(w:World):Calls Tryz.prog 196 #[.int .i64 (d:Int)] w fun e w'=>e= .returned (.bool true)∧w=w':=by
 have h':(d:Int)≤16:=by omega
 go_in;go_wp2;go_ret;exact⟨rfl,rfl⟩
def dZ (h d:Nat):Nat:=h/2^(64-d)
def uH (h d:Nat):Nat:=h/2^(63-d) % 2
theorem Bp (h64:h<18446744073709551616)(hd:d≤16):dZ h d<2^d:=by
 unfold dZ;rw[Nat.div_lt_iff_lt_mul (Nat.two_pow_pos _),←Nat.pow_add,show d+(64-d)=64 by omega];exact h64
theorem TK (hd:d≤16):2^d≤65536:=by
 have:=Nat.pow_le_pow_right (n:=2) (by omega) hd;exact this
theorem JJ (h k:Nat):(h:Int)/2^k=((h/2^k:Nat):Int):=by simp
theorem KJ (h d:Nat)(h64:h<18446744073709551616)(hd:d≤16)(w:World):Calls Tryz.prog 135 #[.int .u64 (h:Int),.int .i64 (d:Int)] w fun e w'=>e= .returned (.tuple #[.int .i64 ((dZ h d:Nat):Int),.nilIface])∧w=w':=by
 have HD:=qd (Bo d hd w);have hlt:=Bp h64 hd;have hp:=TK hd
 have h1:(0:Int)≤64-(d:Int):=by omega
 have h2:(64:Int)-(d:Int)≤64:=by omega
 have h3:((64:Int)-(d:Int)).toNat=64-d:=by omega
 have HV:=qd (show(h:Int)/2^(64-d)=((dZ h d:Nat):Int)from JJ h (64-d))
 have hb:(h:Int)/2^(64-d)<65536:=by rw[HV.out];omega
 have hb0:0≤(h:Int)/2^(64-d):=by rw[HV.out];omega
 clear hlt hp h64;go_in;go_wp2_with fail;refine HD.out.mono ?_;rintro e w1 ⟨rfl,rfl⟩;go_wp2;rw[HV.out];go_ret2;exact⟨rfl,rfl⟩
theorem abS (x:Nat)(hx:x<18446744073709551616):bits .and .u64 (x:Int) 1=((x % 2:Nat):Int):=by
 have:=bits_and_u64_nat x 1 hx (by decide);rw[Nat.and_one_is_mod]at this;exact this
theorem VY (h d:Nat)(h64:h<18446744073709551616)(hd:d≤15)(w:World):Calls Tryz.prog 246 #[.int .u64 (h:Int),.int .i64 (d:Int)] w fun e w'=>e= .returned (.tuple #[.int .i64 ((uH h d:Nat):Int),.nilIface])∧w=w':=by
 have HD:=qd (Bo d (by omega) w)
 have h1:(0:Int)≤63-(d:Int):=by omega
 have h2:(63:Int)-(d:Int)≤64:=by omega
 have h3:((63:Int)-(d:Int)).toNat=63-d:=by omega
 have hlt:h/2^(63-d)<18446744073709551616:=Nat.lt_of_le_of_lt (Nat.div_le_self _ _) h64;have HV:=qd (show bits .and .u64 ((h:Int)/2^(63-d)) 1=((uH h d:Nat):Int)from by rw[JJ];exact abS _ hlt)
 have hb:bits .and .u64 ((h:Int)/2^(63-d)) 1<2:=by rw[HV.out];unfold uH;omega
 have hb0:0≤bits .and .u64 ((h:Int)/2^(63-d)) 1:=by rw[HV.out];omega
 clear hlt h64;go_in;go_wp2_with fail;refine HD.out.mono ?_;rintro e w1 ⟨rfl,rfl⟩;go_wp2;rw[HV.out];go_ret2;exact⟨rfl,rfl⟩
theorem JK (p d:Nat)(hd:d≤16)(hp:p<2^d)(w:World):Calls Tryz.prog 130 #[.int .i64 (p:Int),.int .i64 (d:Int)] w fun e w'=>e= .returned (.bool true)∧w=w':=by
 have HD:=qd (Bo d hd w)
 have h1:(d:Int)≤64:=by omega
 have hpw:=TK hd
 have e:((2:Int)^d)=((2^d:Nat):Int):=by simp
 have h2:(p:Int)<2^d:=by rw[e];omega
 have h3:(2:Int)^d≤65536:=by rw[e];omega
 have h4:(0:Int)≤2^d:=by rw[e];omega
 clear hp hpw e;go_in;go_wp2_with fail;refine HD.out.mono ?_;rintro e w1 ⟨rfl,rfl⟩;go_wp2;go_ret;exact⟨rfl,rfl⟩
def mZ (p d:Nat):Nat:=p*2^(64-d)
def lg (p d:Nat):Nat:=p*2^(64-d)+(2^(64-d)-1)
theorem Bq {p:Nat}(hd:d≤16)(hp:p<2^d):mZ p d+2^(64-d)≤18446744073709551616:=by
 unfold mZ;have:(p+1)*2^(64-d)≤2^d*2^(64-d):=Nat.mul_le_mul_right _ hp;rw[←Nat.pow_add,show d+(64-d)=64 by omega,Nat.add_mul,Nat.one_mul]at this;exact this
theorem Da (p d:Nat)(hd:d≤16)(hp:p<2^d)(w:World):Calls Tryz.prog 85 #[.int .i64 (p:Int),.int .i64 (d:Int)] w fun e w'=>e= .returned (.tuple #[.int .u64 ((mZ p d:Nat):Int),.nilIface])∧w=w':=by
 have HD:=qd (JK p d hd hp w)
 have h1:(0:Int)≤64-(d:Int):=by omega
 have h2:(64:Int)-(d:Int)≤64:=by omega
 have h3:((64:Int)-(d:Int)).toNat=64-d:=by omega
 have hlt:=Bq hd hp;have hpos:=Nat.two_pow_pos (64-d);have hpw:=TK hd
 have hp1:(p:Int)<65536:=by omega
 have HV:=qd (show IntKind.u64.wrap ((p:Int)*2^(64-d))=((mZ p d:Nat):Int)from by
  rw[show(p:Int)*2^(64-d)=((mZ p d:Nat):Int) by simp[mZ]]
  exact xM (by omega))
 clear hlt hpos hpw hp hd;go_in;go_wp2_with fail;refine HD.out.mono ?_;rintro e w1 ⟨rfl,rfl⟩;go_wp2;rw[HV.out];go_ret2;exact⟨rfl,rfl⟩
theorem ac0 {a k b:Nat}(hb:b<2^k):a*2^k|||b=a*2^k+b:=by
 have:=Nat.shiftLeft_add_eq_or_of_lt hb a;rw[Nat.shiftLeft_eq]at this;exact this.symm
theorem YV (hd:d≤16):18446744073709551615/2^d=2^(64-d)-1:=by
 have H:∀d:Fin 17,18446744073709551615/2^d.val=2^(64-d.val)-1:=by decide+kernel
 exact H ⟨d,by omega⟩
theorem TL (p d:Nat)(hd:d≤16)(hp:p<2^d)(w:World):Calls Tryz.prog 173 #[.int .i64 (p:Int),.int .i64 (d:Int)] w fun e w'=>e= .returned (.tuple #[.int .u64 ((lg p d:Nat):Int),.nilIface])∧w=w':=by
 have HD:=qd (Da p d hd hp w)
 have h1:(d:Int)≤64:=by omega
 have hlt:=Bq hd hp;have hpos:=Nat.two_pow_pos (64-d)
 have HV:=qd (show bits .or .u64 ((mZ p d:Nat):Int) (18446744073709551615/2^d)=((lg p d:Nat):Int)from by
  have e:(18446744073709551615:Int)/2^d=((2^(64-d)-1:Nat):Int):=by
   rw[←YV hd];exact JJ 18446744073709551615 d
  rw[e,bits_or_u64_nat _ _ (by omega) (by omega)];unfold mZ lg
  rw[ac0 (by omega)])
 clear hlt hpos hp hd;go_in;go_wp2_with fail;refine HD.out.mono ?_;rintro e w1 ⟨rfl,rfl⟩;go_wp2;rw[HV.out];go_ret2;exact⟨rfl,rfl⟩
theorem abT (h:Pw n):bits .and .i64 (n:Int) ((n:Int)-1)=0:=by
 unfold Pw at h
 rcases h with rfl|rfl|rfl|rfl|rfl|rfl|rfl<;>decide
theorem QT (n:Nat)(h:Pw n)(w:World):Calls Tryz.prog 197 #[.int .i64 (n:Int)] w fun e w'=>e= .returned (.bool true)∧w=w':=by
 have h1:(1:Int)≤(n:Int):=by have:=h.pos;omega
 have h2:(n:Int)≤64:=by have:=h.le;omega
 have hV:=abT h;clear h;go_in;go_wp2;go_ret;exact⟨rfl,rfl⟩
theorem ac1 (h:Pw n):∃k,n=2^k:=by
 unfold Pw at h;rcases h with rfl|rfl|rfl|rfl|rfl|rfl|rfl
 ·exact⟨0,rfl⟩
 ·exact⟨1,rfl⟩
 ·exact⟨2,rfl⟩
 ·exact⟨3,rfl⟩
 ·exact⟨4,rfl⟩
 ·exact⟨5,rfl⟩
 ·exact⟨6,rfl⟩
theorem YW (h64:h<18446744073709551616)(hn:Pw n):bits .and .u64 (h:Int) ((n:Int)-1)=((h % n:Nat):Int):=by
 obtain⟨k,rfl⟩:=ac1 hn;have hle:=hn.le;have hpos:=hn.pos;have:=bits_and_u64_nat h (2^k-1) h64 (by omega);rw[Nat.and_two_pow_sub_one_eq_mod]at this;rw[show((2^k:Nat):Int)-1=((2^k-1:Nat):Int) by omega];exact this
theorem TM (h n:Nat)(h64:h<18446744073709551616)(hn:Pw n)(w:World):Calls Tryz.prog 203 #[.int .u64 (h:Int),.int .i64 (n:Int)] w fun e w'=>e= .returned (.int .i64 ((h % n:Nat):Int))∧w=w':=by
 have h1:(1:Int)≤(n:Int):=by have:=hn.pos;omega
 have h2:(n:Int)≤64:=by have:=hn.le;omega
 have hV:=YW h64 hn
 have hm:((h % n:Nat):Int)<64:=by have:=Nat.mod_lt h hn.pos;omega
 clear hn h64;go_in;go_wp2;go_ret;exact⟨gu (by omega),rfl⟩
def bA (a b:ay):Bool:=decide (a.hash<b.hash)||(a.hash==b.hash && decide (a.key<b.key))
theorem KL (a:Nat)(w:World):Calls Tryz.prog 231 #[.int .u64 (a:Int)] w fun e w'=>e= .returned (.bool false)∧w=w':=by
 go_in;go_wp2;go_ret;exact⟨by simp,rfl⟩
def NZ (a b:Nat):Int:=if a<b then-1 else if b<a then 1 else 0
theorem abU (a b:Nat)(w:World):Calls Tryz.prog 177 #[.int .u64 (a:Int),.int .u64 (b:Int)] w fun e w'=>e= .returned (.int .i64 (NZ a b))∧w=w':=by
 have HA:=qd (KL a w);have HB:=qd (KL b w);have HC:=qd (show NZ a b=if a<b then-1 else if b<a then 1 else 0 from rfl)
 have K:(a:Int)<b∨(¬(a:Int)<b∧(b:Int)<a)∨(¬(a:Int)<b∧¬(b:Int)<a):=by omega
 rcases K with h|⟨h,h2⟩|⟨h,h2⟩
 ·go_in;go_wp2_with fail;refine HA.out.mono ?_;rintro e w1 ⟨rfl,rfl⟩;go_wp2_with fail;refine HB.out.mono ?_;rintro e w1 ⟨rfl,rfl⟩;go_wp2;go_ret;exact⟨gu (by rw[HC.out,if_pos (by omega)]),rfl⟩
 ·go_in;go_wp2_with fail;refine HA.out.mono ?_;rintro e w1 ⟨rfl,rfl⟩;go_wp2_with fail;refine HB.out.mono ?_;rintro e w1 ⟨rfl,rfl⟩;go_wp2;go_ret;exact⟨gu (by rw[HC.out,if_neg (by omega),if_pos (by omega)]),rfl⟩
 ·go_in;go_wp2_with fail;refine HA.out.mono ?_;rintro e w1 ⟨rfl,rfl⟩;go_wp2_with fail;refine HB.out.mono ?_;rintro e w1 ⟨rfl,rfl⟩;go_wp2;go_ret;exact⟨gu (by rw[HC.out,if_neg (by omega),if_neg (by omega)]),rfl⟩
def orI (a b:Int):Int:=if a=0 then b else a
theorem abV (g:Nat)(a b:Int)(w:World)(h0:w.cell? ⟨g,0,none⟩=some (.int .i64 a))(h1:w.cell? ⟨g,1,none⟩=some (.int .i64 b)):
  Calls Tryz.prog 263 #[.slice (some ⟨g,0,none⟩) 2 2] w fun e w'=>e= .returned (.int .i64 (orI a b))∧w=w':=by
 have HO:=qd (show orI a b=if a=0 then b else a from rfl);go_in;go_wp2;go_loop [5,8] (fun _ i=>∃k:Nat,k≤2∧i= .int .i64 k∧(0<k→a=0)∧(1<k→b=0)) (fun _ i=>2-(intOf i).toNat)
 case atStart=>exact⟨0,by omega,rfl,by omega,by omega⟩
 case round=>
  obtain⟨k,hk,rfl,ha,hb⟩:=hrel
  have K:k=0∨k=1∨k=2:=by omega
  rcases K with rfl|rfl|rfl
  ·clear ha hb
   cases hz:(a !=0)with
   |true=>
    go_wp2;go_ret;exact⟨gu (by rw[HO.out,if_neg (by simpa using hz)]),rfl⟩
   |false=>
    go_wp2;go_round
    case rel=>exact⟨1,by omega,rfl,fun _=>by simpa using hz,by omega⟩
    case measure=>simp[intOf]
  ·have HA:=qd (ha (by omega));clear ha hb
   cases hz:(b !=0)with
   |true=>
    go_wp2;go_ret;exact⟨gu (by rw[HO.out,if_pos HA.out]),rfl⟩
   |false=>
    go_wp2;go_round
    case rel=>exact⟨2,by omega,rfl,fun _=>HA.out,fun _=>by simpa using hz⟩
    case measure=>simp[intOf]
  ·have HA:=qd (ha (by omega));have HB:=qd (hb (by omega));clear ha hb;go_wp2;go_ret;exact⟨gu (by rw[HO.out,if_pos HA.out,HB.out]),rfl⟩
theorem YX (a b:ay):decide (orI (NZ a.hash b.hash) (NZ a.key b.key)<0)=bA a b:=by
 unfold orI NZ bA;rw[Bool.eq_iff_iff];simp only[decide_eq_true_eq,Bool.or_eq_true,Bool.and_eq_true,beq_iff_eq];by_cases h1:a.hash<b.hash
 ·simp[h1]
 ·by_cases h2:b.hash<a.hash
  ·simp[h1,h2];omega
  ·have:a.hash=b.hash:=by omega
   simp[this];by_cases h3:a.key<b.key
   ·simp[h3]
   ·by_cases h4:b.key<a.key
    ·simp[h3,h4]
    ·simp[h3,h4]
theorem N7 {W:World}{o:Obj}{a:Addr}{v:Value}(h:W.cell? a=some v):(W.alloc o).cell? a=some v:=(World.cell?_alloc_lt W o a (World.block_lt_of_cell? W a h)).trans h
def aW (e:ay):Value:= .agg #[.int .u64 (e.key:Int),.int .u64 (e.val:Int),.int .u64 (e.hash:Int)]
def aO (e:ay):List Value:=[.int .u64 (e.key:Int),.int .u64 (e.val:Int),.int .u64 (e.hash:Int)]
theorem jW (a b:ay)(w:World):Calls Tryz.prog 229 #[aW a,aW b] w fun e w'=>e= .returned (.bool (bA a b))∧Below w.heap.size w w':=by
 have HL:=qd (YX a b);have HC:=qd (fun(x y:Nat) (W:World)=>abU x y W);unfold aW;have hA:=aj.alloc (aj.new w 148 #[.int .u64 (a.key:Int),.int .u64 (a.val:Int),.int .u64 (a.hash:Int)]) (.cells #[.int .u64 (b.key:Int),.int .u64 (b.val:Int),.int .u64 (b.hash:Int)] 148);have hB:=aj.new (w.alloc (.cells #[.int .u64 (a.key:Int),.int .u64 (a.val:Int),.int .u64 (a.hash:Int)] 148)) 148 #[.int .u64 (b.key:Int),.int .u64 (b.val:Int),.int .u64 (b.hash:Int)];have hBel:Below w.heap.size w ((w.alloc (.cells #[.int .u64 (a.key:Int),.int .u64 (a.val:Int),.int .u64 (a.hash:Int)] 148)).alloc (.cells #[.int .u64 (b.key:Int),.int .u64 (b.val:Int),.int .u64 (b.hash:Int)] 148)):=((Below.refl _ w).alloc (Nat.le_refl _) _).alloc (by simp) _;rw[World.size_alloc]at hB;obtain⟨W,hW⟩:∃W,W=(w.alloc (.cells #[.int .u64 (a.key:Int),.int .u64 (a.val:Int),.int .u64 (a.hash:Int)] 148)).alloc (.cells #[.int .u64 (b.key:Int),.int .u64 (b.val:Int),.int .u64 (b.hash:Int)] 148):=⟨_,rfl⟩;rw[←hW]at hA hB hBel;have a0:=hA.cell 0;have a2:=hA.cell 2;have b0:=hB.cell 0;have b2:=hB.cell 2;simp only[gl]at a0 a2 b0 b2;have HW:=qd hW;clear hW hA hB;go_in;go_upto_region 1 with fail;rw[←HW.out]
 go_region_held3 (fun w'=>(w'.cell? ⟨w.heap.size,0,none⟩=some (.int .u64 (a.key:Int))∧w'.cell? ⟨w.heap.size,2,none⟩=some (.int .u64 (a.hash:Int))∧w'.cell? ⟨w.heap.size+1,0,none⟩=some (.int .u64 (b.key:Int))∧w'.cell? ⟨w.heap.size+1,2,none⟩=some (.int .u64 (b.hash:Int)))∧Below w.heap.size w w')
  (first
   |(go_split_ands;refine⟨⟨?_, ?_, ?_, ?_⟩, ?_⟩<;>first|go_keep|assumption|exact N7 (by assumption)|exact Below.drew (by assumption)|exact Below.alloc (by assumption) (Below.size (by assumption)) _)
   |(refine⟨⟨?_, ?_, ?_, ?_⟩, ?_⟩<;>first|go_keep|assumption|exact N7 (by assumption)|exact Below.drew (by assumption)|exact Below.alloc (by assumption) (Below.size (by assumption)) _))
  (first
   |(go_at_call 177;refine(HC.out _ _ _).mono ?_;rintro e w3 ⟨rfl,rfl⟩)
   |(go_at_call 263;refine(abV _ _ _ _ ((aj.new _ _ _).cell 0) ((aj.new _ _ _).cell 1)).mono ?_;rintro e w3 ⟨rfl,rfl⟩))
 go_wp2;go_ret;exact⟨jl HL.out,(hBel.alloc hBel.size _).drew⟩
end
section
variable {w w' w1 w2 : World} {S T : List Nat} {A : Prop} {C : List Nat → Prop}
structure Mod (S:List Nat)(w w':World):Prop where
 os:w'.os=w.os
 tape:w'.tape=w.tape
 output:w'.output=w.output
 size:w.heap.size≤w'.heap.size
 block:∀k,k<w.heap.size→k∉S→w'.heap[k]?=w.heap[k]?
theorem Mod.refl (S:List Nat)(w:World):Mod S w w:=⟨rfl,rfl,rfl,Nat.le_refl _,fun _ _ _=>rfl⟩
theorem Mod.of_below (h:Below w.heap.size w w')(S:List Nat):Mod S w w':=⟨h.os,h.tape,h.output,h.size,fun k hk _=>h.block k hk⟩
theorem Mod.trans {U:List Nat}(h1:Mod S w w1)(h2:Mod T w1 w2)(hS:∀k,k∈S→k<w.heap.size→k∈U)(hT:∀k,k∈T→k<w.heap.size→k∈U):Mod U w w2:=
 ⟨h2.os.trans h1.os,h2.tape.trans h1.tape,h2.output.trans h1.output,Nat.le_trans h1.size h2.size,fun k hk hn=>
  (h2.block k (Nat.lt_of_lt_of_le hk h1.size) (fun h=>hn (hT k h hk))).trans (h1.block k hk (fun h=>hn (hS k h hk)))⟩
theorem Mod.then (h1:Mod S w w1)(h2:Mod S w1 w2):Mod S w w2:=h1.trans h2 (fun _ h _=>h) (fun _ h _=>h)
theorem Mod.more (h:Mod S w w')(hS:∀k,k∈S→k∈T):Mod T w w':=⟨h.os,h.tape,h.output,h.size,fun k hk hn=>h.block k hk (fun hh=>hn (hS k hh))⟩
theorem Mod.drewN (S:List Nat)(w:World)(n:Nat):Mod S w (w.drewN n):=⟨rfl,rfl,rfl,Nat.le_refl _,fun _ _ _=>rfl⟩
theorem Mod.alloc (h:Mod S w w')(o:Obj):Mod S w (w'.alloc o):=h.then (Mod.of_below ((Below.refl _ _).alloc (Nat.le_refl _) o) S)
theorem Mod.ak (h:Mod S w w'){b:Nat}(hb:b∈S∨w.heap.size≤b)(o:Nat)(u:Value):Mod S w (w'.setCell ⟨b,o,none⟩ u):=
 ⟨h.os,h.tape,h.output,by simpa using h.size,fun k hk hn=>by
  have hne:k≠b:=by rintro rfl;rcases hb with hb|hb;exact hn hb;omega
  exact(Below.heap_setCell w' ⟨b,o,none⟩ u k hne).trans (h.block k hk hn)⟩
theorem Mod.below {B:Nat}(h:Mod S w w')(hS:∀k,k∈S→B≤k)(hB:B≤w.heap.size):Below B w w':=
 ⟨h.os,h.tape,h.output,h.size,fun k hk=>h.block k (Nat.lt_of_lt_of_le hk hB) (fun hh=>absurd (hS k hh) (by omega))⟩
theorem Mod.Br (h:Mod [] w w'):Below w.heap.size w w':=h.below (by simp) (Nat.le_refl _)
theorem aj.mod {g:Nat}{t:TypeId}{cs:Array Value}(h:aj w g t cs)(hm:Mod S w w')(hg:g∉S):aj w' g t cs:=(hm.block g h.lt hg).trans h
class Md (A:Prop)(w w':World)(B:outParam Prop)(C:outParam (List Nat→Prop)):Prop where
 md:∀{S:List Nat},A→Mod S w w'→C S→B
theorem mv {B:Prop}[i:Md A w w' B C](hm:Mod S w w')(h:Hid A)(hs:C S:=by simp<;>omega):Hid B:=qd (i.md h.out hm hs)
theorem nb {B:Prop}[i:Md A w w' B C](hb:Below w.heap.size w w')(h:Hid A)(hs:C []:=by simp):Hid B:=qd (i.md h.out (Mod.of_below hb []) hs)
instance {w w':World}{g:Nat}{t:TypeId}{cs:Array Value}:Md (aj w g t cs) w w' (aj w' g t cs) (fun S=>g∉S):=⟨fun h hm hs=>aj.mod h hm hs⟩
structure bF where
 p:Int
 v:Int
 u:Int
def oI (n:Int):Int:=min (max n 0) 1099511627776
def r9 (a b:Int):Int:=min (oI a+oI b) 1099511627776
def je (a b:bF):bF:=⟨r9 a.p b.p,r9 a.v b.v,r9 a.u b.u⟩
def oJ (c:bF):Value:= .agg #[.int .i64 c.p,.int .i64 c.v,.int .i64 c.u]
theorem KM (n:Int):0≤oI n∧oI n≤1099511627776:=by unfold oI;omega
theorem Fj (n:Int)(w:World):Calls Tryz.prog 168 #[.int .i64 n] w fun e w'=>e= .returned (.int .i64 (oI n))∧w=w':=by
 have HC:=qd (show oI n=min (max n 0) 1099511627776 from rfl);go_in;go_wp2
 all_goals
  go_ret;exact⟨gu (by have hc:=HC.out;first|omega|(rw[hc];first|omega|(split at* <;>omega))),rfl⟩
theorem TN {P:Program}{f:FuncId}{args:Array Value}{v:Value}(h:Calls P f args w fun e w'=>e= .returned v∧w=w'):Calls P f args w fun e w'=>e= .returned v∧w'=w:=h.mono fun _ _ ⟨a,b⟩=>⟨a,b.symm⟩
theorem VZ (a b:Int)(w:World):Calls Tryz.prog 104 #[.int .i64 a,.int .i64 b] w fun e w'=>e= .returned (.int .i64 (r9 a b))∧w=w':=by
 have HA:=qd (Fj a w);have HB:=qd (Fj b w);have HC:=qd (show r9 a b=min (oI a+oI b) 1099511627776 from rfl);obtain⟨a0,a1⟩:=KM a;obtain⟨b0,b1⟩:=KM b;go_in;go_wp2_with fail;refine HA.out.mono ?_;rintro e w1 ⟨rfl,rfl⟩;go_wp2_with fail;refine HB.out.mono ?_;rintro e w1 ⟨rfl,rfl⟩;go_wp2
 all_goals
  go_ret;exact⟨gu (by have hc:=HC.out;first|omega|(rw[hc];omega)),rfl⟩
theorem Bt (c d:bF)(w:World):Calls Tryz.prog 63 #[oJ c,oJ d] w fun e w'=>e= .returned (oJ (je c d))∧Below w.heap.size w w':=by
 have HS:=qd (fun(a b:Int) (W:World)=>VZ a b W);unfold oJ je;generalize hp:r9 c.p d.p=sp;generalize hv:r9 c.v d.v=sv;generalize hu:r9 c.u d.u=su;have HP:=qd hp;have HV:=qd hv;have HU:=qd hu;clear hp hv hu;have hA:=aj.alloc (aj.alloc (aj.new w 87 #[.int .i64 c.p,.int .i64 c.v,.int .i64 c.u]) (.cells #[.int .i64 d.p,.int .i64 d.v,.int .i64 d.u] 87)) (.cells #[.int .i64 0,.int .i64 0,.int .i64 0] 87);have hB:=aj.alloc (aj.new (w.alloc (.cells #[.int .i64 c.p,.int .i64 c.v,.int .i64 c.u] 87)) 87 #[.int .i64 d.p,.int .i64 d.v,.int .i64 d.u]) (.cells #[.int .i64 0,.int .i64 0,.int .i64 0] 87);have hD:=aj.new ((w.alloc (.cells #[.int .i64 c.p,.int .i64 c.v,.int .i64 c.u] 87)).alloc (.cells #[.int .i64 d.p,.int .i64 d.v,.int .i64 d.u] 87)) 87 #[.int .i64 0,.int .i64 0,.int .i64 0];have hBel:Below w.heap.size w (((w.alloc (.cells #[.int .i64 c.p,.int .i64 c.v,.int .i64 c.u] 87)).alloc (.cells #[.int .i64 d.p,.int .i64 d.v,.int .i64 d.u] 87)).alloc (.cells #[.int .i64 0,.int .i64 0,.int .i64 0] 87)):=(((Below.refl _ w).alloc (Nat.le_refl _) _).alloc (by simp) _).alloc (by simp;omega) _;simp only[World.size_alloc]at hB hD
 obtain⟨W,hW⟩:∃W,W=((w.alloc (.cells #[.int .i64 c.p,.int .i64 c.v,.int .i64 c.u] 87)).alloc (.cells #[.int .i64 d.p,.int .i64 d.v,.int .i64 d.u] 87)).alloc (.cells #[.int .i64 0,.int .i64 0,.int .i64 0] 87):=⟨_,rfl⟩;rw[←hW]at hA hB hD hBel;have a0:=hA.cell 0;have a1:=hA.cell 1;have a2:=hA.cell 2;have b0:=hB.cell 0;have b1:=hB.cell 1;have b2:=hB.cell 2;have d0:=hD.cell 0;have d1:=hD.cell 1;have d2:=hD.cell 2;simp only[gl]at a0 a1 a2 b0 b1 b2 d0 d1 d2;obtain⟨f0,f1,f2⟩:=hD.f3;have HW:=qd hW;clear hW hA hB hD;go_in;go_upto_region 1 with fail;rw[←HW.out];go_still_tail 15,(by kernel_rfl)
 still_call (TN (HS.out _ _ _))
 repeat still_step
 still_call (TN (HS.out _ _ _))
 repeat still_step
 still_call (TN (HS.out _ _ _))
 refine wpStill_nil ?_;change wpList _ _ _ _ _ W.drew;go_wp2;rw[HP.out,HV.out,HU.out];refine bodyPost_ret (v:= .agg #[.int .i64 sp,.int .i64 sv,.int .i64 su]) (by simp[results,Tryz.results63,go_sem,d0,d1,d2]) rfl ⟨rfl, ?_⟩;exact(((hBel.setCell (p:=⟨w.heap.size+1+1,0,none⟩) (by simp;omega) _).setCell (p:=⟨w.heap.size+1+1,1,none⟩) (by simp;omega) _).setCell (p:=⟨w.heap.size+1+1,2,none⟩) (by simp;omega) _).drew
end
theorem qM {A B:Prop}{C:List Nat→Prop}{S:List Nat}{w w':World}[i:Md A w w' B C](hm:Mod S w w')(h:Hid A)(hs:C S:=by simp<;>omega):Hid B:=Lib.hid (i.md h.out hm hs)
theorem qB {A B:Prop}{C:List Nat→Prop}{w w':World}[i:Md A w w' B C](hb:Below w.heap.size w w')(h:Hid A)(hs:C []:=by simp):Hid B:=Lib.hid (i.md h.out (Mod.of_below hb []) hs)
theorem abf {p:World→Prop}{w w1:World}{b:Nat}{S:List Nat}{t:TypeId}{cs:Array Value}(h:aj w b t cs)(hm:Mod S w1 w)(h2:∀v,aj v b t cs∧Mod S w1 v→p v):p w:=h2 w ⟨h,hm⟩
theorem qT {S:List Nat}{w w1 w2:World}(h:Hid (Mod S w w1))(hb:Below w1.heap.size w1 w2):Hid (Mod S w w2):=Lib.hid (h.out.then (Mod.of_below hb _))
theorem qU {T U:List Nat}{w w1 w2:World}(h1:Hid (Mod U w w1))(h2:Mod T w1 w2)(hT:∀k,k∈T→k<w.heap.size→k∈U:=by intro k hk hl;simp at hk⊢<;>omega):Hid (Mod U w w2):=Lib.hid (h1.out.trans h2 (fun _ hh _=>hh) hT)
theorem Io {p:World→Prop}{w:World}{b:Nat}{t:TypeId}{cs:Array Value}{i0:Nat}{v0:Value}(h:aj w b t cs)(k:∀v,aj v b t (cs.setIfInBounds i0 v0)∧Mod [b] w v→p v):p (w.setCell ⟨b,i0,none⟩ v0):=k _ ⟨(h.ak i0 v0),((Mod.refl [b] w).ak (.inl (by simp)) i0 v0)⟩
theorem qS2 {p:World→Prop}{w:World}{b:Nat}{t:TypeId}{cs:Array Value}{i0 i1:Nat}{v0 v1:Value}(h:aj w b t cs)(k:∀v,aj v b t ((cs.setIfInBounds i0 v0).setIfInBounds i1 v1)∧Mod [b] w v→p v):p ((w.setCell ⟨b,i0,none⟩ v0).setCell ⟨b,i1,none⟩ v1):=k _ ⟨((h.ak i0 v0).ak i1 v1),(((Mod.refl [b] w).ak (.inl (by simp)) i0 v0).ak (.inl (by simp)) i1 v1)⟩
theorem KN {p:World→Prop}{w:World}{b:Nat}{t:TypeId}{cs:Array Value}{i0 i1 i2:Nat}{v0 v1 v2:Value}(h:aj w b t cs)(k:∀v,aj v b t (((cs.setIfInBounds i0 v0).setIfInBounds i1 v1).setIfInBounds i2 v2)∧Mod [b] w v→p v):p (((w.setCell ⟨b,i0,none⟩ v0).setCell ⟨b,i1,none⟩ v1).setCell ⟨b,i2,none⟩ v2):=k _ ⟨(((h.ak i0 v0).ak i1 v1).ak i2 v2),((((Mod.refl [b] w).ak (.inl (by simp)) i0 v0).ak (.inl (by simp)) i1 v1).ak (.inl (by simp)) i2 v2)⟩
theorem Ah {p:World→Prop}{w:World}{b:Nat}{t:TypeId}{cs:Array Value}{i0 i1 i2 i3 i4 i5 i6:Nat}{v0 v1 v2 v3 v4 v5 v6:Value}(h:aj w b t cs)(k:∀v,aj v b t (((((((cs.setIfInBounds i0 v0).setIfInBounds i1 v1).setIfInBounds i2 v2).setIfInBounds i3 v3).setIfInBounds i4 v4).setIfInBounds i5 v5).setIfInBounds i6 v6)∧Mod [b] w v→p v):p (((((((w.setCell ⟨b,i0,none⟩ v0).setCell ⟨b,i1,none⟩ v1).setCell ⟨b,i2,none⟩ v2).setCell ⟨b,i3,none⟩ v3).setCell ⟨b,i4,none⟩ v4).setCell ⟨b,i5,none⟩ v5).setCell ⟨b,i6,none⟩ v6):=k _ ⟨(((((((h.ak i0 v0).ak i1 v1).ak i2 v2).ak i3 v3).ak i4 v4).ak i5 v5).ak i6 v6),((((((((Mod.refl [b] w).ak (.inl (by simp)) i0 v0).ak (.inl (by simp)) i1 v1).ak (.inl (by simp)) i2 v2).ak (.inl (by simp)) i3 v3).ak (.inl (by simp)) i4 v4).ak (.inl (by simp)) i5 v5).ak (.inl (by simp)) i6 v6)⟩
theorem Mod.sl {b:Nat}{S:List Nat}{w w':World}(h:Mod (b::S) w w')(o:Nat)(u:Value):Mod (b::S) w (w'.setCell ⟨b,o,none⟩ u):=h.ak (.inl (by simp)) o u
section
variable {d n o : Nat}
theorem yV {P:Program}(w:World)(dT sT ty elem:TypeId)(sz g o dLen dCap:Nat)(a:Addr)(sLen sCap:Nat)(cur:Array Value)(t:TypeId)(cs:List Value)(hu:P.underlying dT=some (.slice elem))(hs:(P.info? elem).map (·.size)=some sz)(hg:w.heap[g]?=some (.cells cur t (0,0)))(hn:cs.length=Nat.min sLen dLen*sz)(hsrc:∀j v,cs[j]?=some v→w.cell? (a.add j)=some v)(hfit:o+cs.length≤cur.size)(h1:∀v∈cs,v.oneCell'=true):
  (Builtin.copy_ #[dT,sT] ty #[.slice (some ⟨g,o,none⟩) dLen dCap,.slice (some a) sLen sCap]).run P w=
   .ok (goInt (Nat.min sLen dLen)) (w.setRow g (splice cur.toList o cs).toArray):=by
 have hl:=run_loadCells_list (P:=P) w a cs hsrc;have hst:=run_storeCells_at P g o t cs 0 cur w hg (by simpa using hfit) h1
 cases hq:P.info? elem with
 |none=>simp[hq]at hs
 |some i=>
  have hi:i.size=sz:=by simpa[hq]using hs
  simp[Builtin.copy_,run_underlying hu,Builtin.lenOf,Builtin.firstCells,sizeOf,typeInfo,hq,hi,←hn,hl,hst,splice]
section
variable {α : Type} {L cs xs vs : List α}
theorem rz (ho:o≤L.length)(j:Nat):(splice L o cs)[j]?=if j<o then L[j]? else if j<o+cs.length then cs[j-o]? else L[j]?:=by
 unfold splice;by_cases h1:j<o
 ·rw[if_pos h1,List.getElem?_append_left (by rw[List.length_take];omega),List.getElem?_take_of_lt h1]
 ·rw[if_neg h1,List.getElem?_append_right (by rw[List.length_take];omega),List.length_take,Nat.min_eq_left ho];by_cases h2:j<o+cs.length
  ·rw[if_pos h2,List.getElem?_append_left (by omega)]
  ·rw[if_neg h2,List.getElem?_append_right (by omega),List.getElem?_drop];congr 1;omega
theorem pK (h:o+cs.length≤L.length):(splice L o cs).length=L.length:=length_splice L o cs h
theorem V4 (hx:L.take n=xs)(hd:d≤n)(hn:n+vs.length≤L.length):(splice (splice L (d+vs.length) (xs.drop d)) d vs).take (n+vs.length)=xs.take d++(vs++xs.drop d):=by
 have hl:xs.length=n:=by rw[←hx,List.length_take];omega
 have h1:(splice L (d+vs.length) (xs.drop d)).length=L.length:=pK (by rw[List.length_drop];omega);apply List.ext_getElem?;intro j;by_cases hj:j<n+vs.length
 ·rw[List.getElem?_take_of_lt hj,rz (by omega)];by_cases j1:j<d
  ·rw[if_pos j1,rz (by omega),if_pos (by omega),List.getElem?_append_left (by rw[List.length_take];omega),List.getElem?_take_of_lt j1,←hx,List.getElem?_take_of_lt (by omega)]
  ·rw[if_neg j1,List.getElem?_append_right (by rw[List.length_take];omega),List.length_take,Nat.min_eq_left (by omega)];by_cases j2:j<d+vs.length
   ·rw[if_pos j2,List.getElem?_append_left (by omega)]
   ·rw[if_neg j2,rz (by omega),if_neg j2,if_pos (by rw[List.length_drop];omega),List.getElem?_append_right (by omega)];congr 1;omega
 ·rw[List.getElem?_eq_none (by rw[List.length_take];omega),List.getElem?_eq_none (by simp;omega)]
theorem YZ {Z:List α}(hl:xs.length=n)(hd:d≤n)(hZ:n+vs.length-d≤Z.length):(splice (splice (xs.take d++Z) d vs) (d+vs.length) (xs.drop d)).take (n+vs.length)=xs.take d++(vs++xs.drop d):=by
 have h0:(xs.take d++Z).length=d+Z.length:=by rw[List.length_append,List.length_take];omega
 have h1:(splice (xs.take d++Z) d vs).length=d+Z.length:=by rw[pK (by omega),h0]
 apply List.ext_getElem?;intro j;by_cases hj:j<n+vs.length
 ·rw[List.getElem?_take_of_lt hj,rz (by omega)];by_cases j1:j<d
  ·rw[if_pos (by omega),rz (by omega),if_pos j1,List.getElem?_append_left (by rw[List.length_take];omega),List.getElem?_append_left (by rw[List.length_take];omega)]
  ·rw[List.getElem?_append_right (by rw[List.length_take];omega),List.length_take,Nat.min_eq_left (by omega)];by_cases j2:j<d+vs.length
   ·rw[if_pos j2,rz (by omega),if_neg j1,if_pos j2,List.getElem?_append_left (by omega)]
   ·rw[if_neg j2,if_pos (by rw[List.length_drop];omega),List.getElem?_append_right (by omega)];congr 1;omega
 ·rw[List.getElem?_eq_none (by rw[List.length_take];omega),List.getElem?_eq_none (by simp;omega)]
end
theorem Ip {w:World}{base g cap sz:Nat}{t:TypeId}{cur cur':Array Value}{xs:List Value}(hg:w.heap[g]?=some (.cells cur t (0,0)))(hb:base≤g)(hc:n≤cap)(hm:cap≤maxLen)(hs:cur'.size=cap*sz)(hx:cur'.toList.take (n*sz)=xs):
  (w.setRow g cur').ownsRow base t sz (.slice (some ⟨g,0,none⟩) n cap) n xs∧Mod [g] w (w.setRow g cur'):=by
 have hlt:g<w.heap.size:=(Array.getElem?_eq_some_iff.1 hg).1;refine⟨⟨?_,.inr ⟨g,cap,cur',rfl,hb,setRow_heap w g cur cur' t (0,0) hg,hc,hm,hs,hx⟩⟩,rfl,rfl,rfl,by simp[World.setRow],fun k hk hne=>setRow_other w g k cur' (fun e=>hne (by simp[e]))⟩;rw[←hx,List.length_take,Array.length_toList,hs];have:=Nat.mul_le_mul_right sz hc;omega
end
section
section
variable {w w' : World} {g : Nat} {t : TypeId} {cs : Array Value}
theorem aj.jX (h:aj w g t cs){i:Nat}{u:Value}(hu:cs[i]?=some u):w.setCell ⟨g,i,none⟩ u=w:=by
  have e:(w.setCell ⟨g,i,none⟩ u).heap=w.heap:=by
    apply Array.ext_getElem?;intro j;by_cases hj:j=g
    · subst hj;have h1:=h.ak i u;unfold aj at h1 h;rw[h1,h]
      have:cs.setIfInBounds i u=cs:=by
        apply Array.ext_getElem?;intro k;rw[Array.getElem?_setIfInBounds];split
        · next hk => subst hk; split
                     · exact hu.symm
                     · next hlt=>rw[Array.getElem?_eq_none (by omega)]at hu;cases hu
        · rfl
      rw[this]
    · exact Below.heap_setCell w _ u j hj
  cases w;simp only[World.setCell]at e⊢;rw[e]
end
end
end Go.Proofs.YtjfgpnapccdnlaaGreatDoor
