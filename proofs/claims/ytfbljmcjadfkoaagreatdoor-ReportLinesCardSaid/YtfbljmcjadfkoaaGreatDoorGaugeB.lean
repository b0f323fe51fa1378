/- The plain law of a number's text with three figures behind the point. No program in sight. -/
import Derived.Test.YtfbljmcjadfkoaaGreatDoorDecP
import Derived.Test.YtfbljmcjadfkoaaGreatDoorFloatP
import Derived.Test.YtfbljmcjadfkoaaGreatDoorFloatO
import Derived.Test.YtfbljmcjadfkoaaGreatDoorProg
import Derived.Test.YtfbljmcjadfkoaaGreatDoorSq
import Derived.KernelRfl
import Derived.WalkKit
import Derived.WalkSpells
import Derived.WalkLawsBesides
import Derived.Deep.RegionWith
import Derived.Laws.IdiomStrings
import Derived.Outline
import Derived.Lib.ItoaNum
import Derived.Test.YtfbljmcjadfkoaaGreatDoorGaugeA
import Derived.Test.YtfbljmcjadfkoaaGreatDoorShelf
import Derived.BigQuiet
import Derived.Deep.QuietTactic
import Derived.Lib.AppendIntMem
import Derived.Lib.ItoaMem
import Derived.Lib.Repeat
namespace Go.Proofs.YtfbljmcjadfkoaaGreatDoor.AmD
set_option maxRecDepth 100000
set_option maxHeartbeats 8000000
open Ieee Go.RowKit AmD Go AmF
def pad4 (s:Bytes):Bytes:=if s.length≤3 then List.replicate (4-s.length) 48++s else s
def tail3 (n:Nat):Bytes:=[dg (n/100 % 10),dg (n/10 % 10),dg (n % 10)]
theorem pad4_digits (n:Nat):pad4 (digits n)=digits (n/1000)++tail3 n:=by
 unfold tail3;by_cases h1:n<10
 ·rw[digits_small n h1,show n/1000=0 by omega,digits_small 0 (by omega),show n/100 % 10=0 by omega,show n/10 % 10=0 by omega,show n % 10=n by omega];rfl
 ·by_cases h2:n<100
  ·rw[digits_great n h1,digits_small (n/10) (by omega),show n/1000=0 by omega,digits_small 0 (by omega),show n/100 % 10=0 by omega,show n/10 % 10=n/10 by omega];rfl
  ·by_cases h3:n<1000
   ·rw[digits_great n h1,digits_great (n/10) (by omega),digits_small (n/10/10) (by omega),show n/1000=0 by omega,digits_small 0 (by omega),show n/100 % 10=n/10/10 by omega];rfl
   ·rw[digits_great n h1,digits_great (n/10) (by omega),digits_great (n/10/10) (by omega),show n/10/10/10=n/1000 by omega,show n/10/10 % 10=n/100 % 10 by omega];have hne:=List.length_pos_iff.2 (digits_ne (n/1000));unfold pad4;rw[if_neg (by simp only[List.length_append,List.length_cons,List.length_nil];omega)];simp
theorem tail3_length (n:Nat):(tail3 n).length=3:=rfl
def milli (n:Nat):Bytes:=digits (n/1000)++46::tail3 n
theorem milli_cut (n:Nat):(pad4 (digits n)).take ((pad4 (digits n)).length-3)++46::(pad4 (digits n)).drop ((pad4 (digits n)).length-3)=milli n:=by
 rw[pad4_digits,List.length_append,tail3_length,Nat.add_sub_cancel,List.take_left,List.drop_left];rfl
end Go.Proofs.YtfbljmcjadfkoaaGreatDoor.AmD

/-! The plain law of a float below 10 to the 12th, times 1000. No program in sight. -/
namespace Go.Proofs.YtfbljmcjadfkoaaGreatDoor.AmF
set_option maxRecDepth 100000
set_option maxHeartbeats 8000000
open Ieee Go.RowKit AmD Go AmF
def w12:Nat:=4786511204640096256
def w1000:Nat:=4652007308841189376
theorem read_1000:double.read 4652007308841189376= .number false 8796093022208000 (-43):=by
 rw[read_norm (w:=4652007308841189376) (E:=1032) (m:=4292493394837504) (by decide) (by decide) (by decide) (by decide)];rfl
theorem cut_le (n d k:Nat)(h0:0<n)(h:n.log2+1≤k+d):Toward.even.cut false n d≤2^k:=by
 unfold Toward.cut
 have hg:(1:Nat)<<<(min d (n.log2+2))=2^(min d (n.log2+2)):=by rw[Nat.shiftLeft_eq,Nat.one_mul]
 simp only[hg]
 have hlow:n/2^(min d (n.log2+2))<2^k:=by
  rw[Nat.div_lt_iff_lt_mul (Nat.two_pow_pos _),←Nat.pow_add];refine Nat.lt_of_lt_of_le (pow_of_log h0).2 (Nat.pow_le_pow_right (by decide) ?_);omega
 have hm:∀b:Bool,b.toNat≤1:=by intro b;cases b<;>decide
 have:=hm (decide (2^min d (n.log2+2)<2*(n % 2^min d (n.log2+2)))||(2^min d (n.log2+2)==2*(n % 2^min d (n.log2+2)) && n/2^min d (n.log2+2) % 2==1));omega
theorem nearest_low (m:Nat)(p:Int)(h:m=0∨p+(m.log2:Int)≤49):Low (double.nearest false m p):=by
 unfold Low;unfold Format.nearest;by_cases h0:m=0
 ·rw[if_pos h0];decide
 ·rw[if_neg h0];have hp:=h.resolve_left h0;simp only[d_least,d_frac,d_binade,d_inf];generalize hL:max (p+(m.log2:Int)-((52:Nat):Int)) (-1074)=L
  have hL1:L≤-3:=by omega
  have hL2: -1074≤L:=by omega
  have hL3:p+(m.log2:Int)-52≤L:=by omega
  have hk:Toward.even.cut false (m<<<(p-L).toNat) (L-p).toNat≤2^53:=by
   rw[Nat.shiftLeft_eq];refine cut_le _ _ _ (Nat.mul_pos (by omega) (Nat.two_pow_pos _)) ?_;rw[log_mul_pow _ _ (by omega)];omega
  have e53:(2:Nat)^53=9007199254740992:=by decide
  rw[e53]at hk;unfold Format.word;simp only[Bool.false_eq_true,if_false]
  have hb:(L- -1074).toNat≤1071:=by omega
  generalize(L- -1074).toNat=b at*;generalize Toward.even.cut false (m<<<(p-L).toNat) (L-p).toNat=q at*;have:=Nat.min_le_left (b*4503599627370496+q) 9218868437227405312;omega
theorem mul_low {a:Nat}(h:a<4786511204640096256):∃t,double.mul a 4652007308841189376=some t∧Low t:=by
 unfold Format.mul;rw[read_1000];by_cases hs:a<4503599627370496
 ·rw[read_small hs];refine⟨_,rfl, ?_⟩;refine nearest_low _ _ ?_;by_cases h0:a*8796093022208000=0
  ·exact .inl h0
  ·right
   have:=log_le (m:=a*8796093022208000) (k:=105) (by omega) (by
    have e:(2:Nat)^(105+1)=81129638414606681695789005144064:=by decide
    omega)
   omega
 ·have hE:a=(a/4503599627370496)*4503599627370496+a % 4503599627370496:=by omega
  have hf:a % 4503599627370496<4503599627370496:=Nat.mod_lt _ (by decide)
  have hE1:1≤a/4503599627370496:=by omega
  have hE2:a/4503599627370496≤1062:=by omega
  rw[read_norm (w:=a) (E:=a/4503599627370496) (m:=a % 4503599627370496) hE1 (by omega) hf hE];refine⟨_,rfl, ?_⟩;refine nearest_low _ _ (.inr ?_);by_cases hm:a/4503599627370496≤1061
  ·have:=log_le (m:=(4503599627370496+a % 4503599627370496)*8796093022208000) (k:=105) (by omega) (by
    have e:(2:Nat)^(105+1)=81129638414606681695789005144064:=by decide
    omega)
   omega
  ·have:=log_le (m:=(4503599627370496+a % 4503599627370496)*8796093022208000) (k:=105) (by omega) (by
    have e:(2:Nat)^(105+1)=81129638414606681695789005144064:=by decide
    omega)
   omega
end Go.Proofs.YtfbljmcjadfkoaaGreatDoor.AmF

/-! Rows of numbers, of texts, and of rows of texts, in memory of the call's own. -/
namespace Go.Proofs.YtfbljmcjadfkoaaGreatDoor
set_option maxRecDepth 100000
set_option maxHeartbeats 8000000
open Ieee Go.RowKit AmD Go AmF
variable {w w' w0 : World} {b base e n size : Nat} {u v v' va vn vr x : Value} {s : ByteArray} {vs : List Value}
abbrev Bts:=List UInt8
def strV (l:Bts):Value:= .string ⟨l.toArray⟩
theorem strV_data (s:ByteArray):strV s.data.toList= .string s:=by unfold strV;congr 1
theorem info_str:(Tryz.prog.info? 9).map (fun i=>(i.zero,i.size,i.bytes))=some (some (.string ByteArray.empty),1,16):=by kernel_rfl
theorem slty_strs:SlTy Tryz.prog 40 9 1 16:=slTy Tryz.underlying40 info_str rfl (by decide) (by decide)
def IntsOwn (w:World)(base:Nat)(v:Value)(l:List Nat):Prop:=w.ownsRow base 3 1 v l.length (l.map fun n:Nat=>Value.int .i64 (n:Int))
def StrsOwn (w:World)(base:Nat)(v:Value)(l:List Bts):Prop:=w.ownsRow base 9 1 v l.length (l.map strV)
def RowsOwn (w:World)(base:Nat)(v x:Value)(l:List (List Bts)):Prop:=
 ∃vs:List Value,w.ownsRow base 40 1 v l.length vs∧(∀(i:Nat) (r:List Bts),l[i]?=some r→∃u,vs[i]?=some u∧StrsOwn w base u r)∧∀u∈vs,u.ownBlock=none∨u.ownBlock≠x.ownBlock
theorem StrsOwn.append {l:List Bts}(h:w.ownsRow base 9 1 v (l.length+1) (l.map strV++[.string s])):StrsOwn w base v (l++[s.data.toList]):=by
 unfold StrsOwn;rw[List.length_append,List.map_append];simpa[strV_data]using h
theorem IntsOwn.append {l:List Nat}(h:w.ownsRow base 3 1 v (l.length+1) ((l.map fun n:Nat=>Value.int .i64 (n:Int))++[.int .i64 (n:Int)])):IntsOwn w base v (l++[n]):=by
 unfold IntsOwn;rw[List.length_append,List.map_append];simpa using h
theorem StrsOwn.grew {l:List Bts}(h:StrsOwn w base u l)(g:Grew w b v w' v')(hne:u.ownBlock=none∨u.ownBlock≠v.ownBlock):StrsOwn w' base u l:=g.keep h hne
theorem RowsOwn.alloc {l:List (List Bts)}(h:RowsOwn w base v x l)(o:Obj):RowsOwn (w.alloc o) base v x l:=by
 obtain⟨vs,h1,h2,h3⟩:=h;exact⟨vs,h1.alloc o,fun i r hr=>let ⟨u,hu,hs⟩:=h2 i r hr;⟨u,hu,World.ownsRow.alloc hs o⟩,h3⟩
theorem RowsOwn.row_grew {x':Value}{l:List (List Bts)}{r:List Bts}(h:RowsOwn w base v x l)(hx:StrsOwn w base x r)(g:Grew w base x w' x'):RowsOwn w' base v x' l:=by
 obtain⟨vs,h1,h2,h3⟩:=h;refine⟨vs,g.keep h1 (own_apart h1 hx (by decide)),fun i r hr=> ?_,fun u hu=> ?_⟩
 ·obtain⟨u,hu,hs⟩:=h2 i r hr;exact⟨u,hu,hs.grew g (h3 u (List.mem_of_getElem? hu))⟩
 ·rcases g.at_ with e|⟨k,e,hk⟩
  ·rw[e];exact h3 u hu
  ·rw[e];obtain⟨i,hi⟩:=List.mem_iff_getElem?.1 hu
   have hlen:vs.length=l.length:=by simpa using h1.1
   have hil:i<l.length:=by have:=(List.getElem?_eq_some_iff.1 hi).1;omega
   obtain⟨u',hu',hs⟩:=h2 i _ (List.getElem?_eq_getElem hil);rw[hi]at hu'
   obtain rfl:u=u':=by injection hu'
   exact own_new hs hk
theorem RowsOwn.other_grew {y y':Value}{l:List (List Bts)}{ys:List Value}(h:RowsOwn w base v x l)(hy:w.ownsRow b e size y n ys)(he:e≠9)(he':e≠40)(g:Grew w base y w' y'):RowsOwn w' base v x l:=by
 obtain⟨vs,h1,h2,h3⟩:=h;refine⟨vs,g.keep h1 (own_apart h1 hy (Ne.symm he')),fun i r hr=> ?_,h3⟩;obtain⟨u,hu,hs⟩:=h2 i r hr;exact⟨u,hu,hs.grew g (own_apart hs hy (Ne.symm he))⟩
theorem RowsOwn.begin_ {l:List (List Bts)}(h:RowsOwn w base v x l):RowsOwn (w.alloc (.cells #[] 9)) base v (.slice (some ⟨w.heap.size,0,none⟩) 0 0) l:=by
 obtain⟨vs,h1,h2,h3⟩:=h
 have hlen:vs.length=l.length:=by simpa using h1.1
 refine⟨vs,h1.alloc _,fun i r hr=>let ⟨u,hu,hs⟩:=h2 i r hr;⟨u,hu,World.ownsRow.alloc hs _⟩,fun u hu=> ?_⟩;obtain⟨i,hi⟩:=List.mem_iff_getElem?.1 hu
 have hil:i<l.length:=by have:=(List.getElem?_eq_some_iff.1 hi).1;omega
 obtain⟨u',hu',hs⟩:=h2 i _ (List.getElem?_eq_getElem hil);rw[hi]at hu'
 obtain rfl:u=u':=by injection hu'
 exact own_new hs (Nat.le_refl _)
theorem StrsOwn.new (hb:base≤w.heap.size):StrsOwn (w.alloc (.cells #[] 9)) base (.slice (some ⟨w.heap.size,0,none⟩) 0 0) []:=
 World.ownsRow_made w #[] 0 hb (by simp[maxLen]) (by simp)
theorem IntsOwn.grew {l:List Nat}(h:IntsOwn w base u l)(g:Grew w b v w' v')(hne:u.ownBlock=none∨u.ownBlock≠v.ownBlock):IntsOwn w' base u l:=g.keep h hne
theorem IntsOwn.alloc {l:List Nat}(h:IntsOwn w base v l)(o:Obj):IntsOwn (w.alloc o) base v l:=World.ownsRow.alloc h o
theorem StrsOwn.alloc {l:List Bts}(h:StrsOwn w base v l)(o:Obj):StrsOwn (w.alloc o) base v l:=World.ownsRow.alloc h o
structure Ref30 (w0 w:World)(vn va vr:Value)(acc:List (Nat×List Bts))(row:List Bts):Prop where
 nums:IntsOwn w w0.heap.size vn (acc.map (·.1))
 rows:RowsOwn w w0.heap.size va vr (acc.map (·.2))
 row:StrsOwn w w0.heap.size vr row
 below:Below w0.heap.size w0 w
theorem Ref30.word {vr':Value}{acc:List (Nat×List Bts)}{row:List Bts}(h:Ref30 w0 w vn va vr acc row)(hown:w'.ownsRow w0.heap.size 9 1 vr' (row.length+1) (row.map strV++[.string s]))(g:Grew w w0.heap.size vr w' vr'):Ref30 w0 w' vn va vr' acc (row++[s.data.toList]):=
 ⟨h.nums.grew g (own_apart h.nums h.row (by decide)),h.rows.row_grew h.row g,StrsOwn.append hown,h.below.trans g.below⟩
theorem Ref30.num {vn':Value}{acc:List (Nat×List Bts)}{row:List Bts}(h:Ref30 w0 w vn va vr acc row)(hown:w'.ownsRow w0.heap.size 3 1 vn' ((acc.map (·.1)).length+1) (((acc.map (·.1)).map fun n:Nat=>Value.int .i64 (n:Int))++[.int .i64 (n:Int)]))(g:Grew w w0.heap.size vn w' vn'):
  IntsOwn w' w0.heap.size vn' (acc.map (·.1)++[n])∧RowsOwn w' w0.heap.size va vr (acc.map (·.2))∧StrsOwn w' w0.heap.size vr row∧Below w0.heap.size w0 w':=
 ⟨IntsOwn.append hown,h.rows.other_grew h.nums (by decide) (by decide) g,h.row.grew g (own_apart h.row h.nums (by decide)),h.below.trans g.below⟩
theorem Ref30.skip {acc:List (Nat×List Bts)}{row:List Bts}(h:Ref30 w0 w vn va vr acc row):
  Ref30 w0 (w.alloc (.cells #[] 9)) vn va (.slice (some ⟨w.heap.size,0,none⟩) 0 0) acc []:=
 ⟨h.nums.alloc _,h.rows.begin_,StrsOwn.new h.below.size,h.below.alloc h.below.size _⟩
theorem Ref30.start (w:World):Ref30 w (((w.alloc (.cells #[] 3)).alloc (.cells #[] 40)).alloc (.cells #[] 9)) (.slice (some ⟨w.heap.size,0,none⟩) 0 0) (.slice (some ⟨w.heap.size+1,0,none⟩) 0 0) (.slice (some ⟨w.heap.size+1+1,0,none⟩) 0 0) [] []:=by
 have h1:=(World.ownsRow_made (base:=w.heap.size) (e:=3) (size:=1) w #[] 0 (Nat.le_refl _) (by simp[maxLen]) (by simp));have h2:=(World.ownsRow_made (base:=w.heap.size) (e:=40) (size:=1) (w.alloc (.cells #[] 3)) #[] 0 (by simp) (by simp[maxLen]) (by simp));have h3:=(StrsOwn.new (w:=(w.alloc (.cells #[] 3)).alloc (.cells #[] 40)) (base:=w.heap.size) (by simp;omega));simp only[World.size_alloc]at h1 h2 h3;exact⟨(h1.alloc _).alloc _,⟨[],h2.alloc _,fun i r hr=>by simp at hr,fun u hu=>by cases hu⟩,h3,(((Below.refl _ _).alloc (Nat.le_refl _) _).alloc (by simp) _).alloc (by simp;omega) _⟩
def lineCells (L:List (Nat×List Bts))(vs:List Value):List Value:=(List.zipWith (fun(p:Nat×List Bts) u=> [Value.int .i64 (p.1:Int),u]) L vs).flatten
end Go.Proofs.YtfbljmcjadfkoaaGreatDoor

/-! amblernum.Unsigned and words.figures by their contracts. -/
namespace Go.Proofs.YtfbljmcjadfkoaaGreatDoor
set_option maxRecDepth 100000
set_option maxHeartbeats 8000000
open Ieee Go.RowKit AmD Go AmF
def Says (l:List UInt8)(b:ByteArray):Prop:=b.data.toList=l
def TextPost (w:World)(l:List UInt8)(e:Ending)(w':World):Prop:=∃b:ByteArray,Says l b∧e= .returned (.string b)∧Below w.heap.size w w'
theorem conv_one (W:World)(a:Addr)(c:UInt8)(h:W.cell? a=some (.int .u8 (c.toNat:Int))):(convert 91 9 (.slice (some a) 1 1)).run Tryz.prog W= .ok (.string ⟨#[c]⟩) W:=by
 refine run_convert_bytes_back (P:=Tryz.prog) W 91 9 5 a 1 [c] Tryz.underlying91 Tryz.underlying5 Tryz.underlying9 fun j hj=> ?_
 obtain rfl:j=0:=by simpa using hj
 have:a.add 0=a:=by unfold Addr.add;split<;>simp_all
 rw[this];exact h
theorem unsigned_small (n:Nat)(h:n<10)(w:World):Calls Tryz.prog 40 #[.int .u64 n] w (TextPost w (digits n)):=by
 have b1:(n:Int)<10:=by omega
 have hv:(48+(n:Int))=((dg n).toNat:Int):=by rw[byte_of h];omega
 have hc:=fun b=>conv_one (w.alloc (.cells #[.int .u8 (48+(n:Int))] 5)) b (dg n)
 have hcell:(w.alloc (.cells #[.int .u8 (48+(n:Int))] 5)).cell? ⟨w.heap.size,0,none⟩=some (.int .u8 ((dg n).toNat:Int)):=by
  rw[hv];exact(Blk.new w 5 _).cell 0
 have hcv:=hc _ hcell;clear hc hcell hv;go_in;go_wp2;go_ret;exact⟨_,by rw[Says,digits_small n h],rfl,(Below.refl _ _).alloc (Nat.le_refl _) _⟩
theorem un_drew {w w1:World}(h:Below w.drew.heap.size w.drew w1):Below w.heap.size w w1:=⟨h.os,h.tape,h.output,h.size,h.block⟩
theorem un_alloc {w w1:World}{o:Obj}(h:Below (w.alloc o).drew.heap.size (w.alloc o).drew w1):Below w.heap.size w w1:=
 ((Below.refl _ w).alloc (Nat.le_refl _) o).trans ((un_drew (w:=w.alloc o) h).mono (by simp))
theorem says_next {n:Nat}{b:ByteArray}(h:10≤n)(hb:Says (digits (n/10)) b):Says (digits n) (b++⟨#[dg (n % 10)]⟩):=by
 unfold Says at hb⊢;rw[digits_great n (by omega),←hb];simp
theorem unsigned_great (n:Nat)(h:10≤n)(hn:n<18446744073709551616)(w:World)(ih:∀w,Calls Tryz.prog 40 #[.int .u64 ((n/10:Nat):Int)] w (TextPost w (digits (n/10)))):
  Calls Tryz.prog 40 #[.int .u64 n] w (TextPost w (digits n)):=by
 have b1:¬(n:Int)<10:=by omega
 have e0:IntKind.u64.wrap ((n:Int)/10)=((n/10:Nat):Int):=by rw[IntKind.wrap_u64];omega
 have e1:IntKind.u8.wrap (IntKind.u64.wrap (48+(n:Int).tmod 10))=((dg (n % 10)).toNat:Int):=by
  rw[byte_of (Nat.mod_lt _ (by omega)),Int.tmod_eq_emod_of_nonneg (by omega),IntKind.wrap_u64,IntKind.wrap_u8];omega
 have hcA:∀W:World,(convert 91 9 (.slice (some ⟨W.heap.size,0,none⟩) 1 1)).run Tryz.prog (W.alloc (.cells #[.int .u8 ((dg (n % 10)).toNat:Int)] 5))= .ok (.string ⟨#[dg (n % 10)]⟩) (W.alloc (.cells #[.int .u8 ((dg (n % 10)).toNat:Int)] 5)):=
  fun W=>conv_one _ _ _ ((Blk.new W 5 _).cell 0)
 have hcC:∀W:World,(convert 91 9 (.slice (some ⟨W.heap.size,0,none⟩) 1 1)).run Tryz.prog (W.alloc (.cells #[.int .u8 ((dg (n % 10)).toNat:Int)] 5)).drew= .ok (.string ⟨#[dg (n % 10)]⟩) (W.alloc (.cells #[.int .u8 ((dg (n % 10)).toNat:Int)] 5)).drew:=
  fun W=>conv_one _ _ _ ((Blk.new W 5 _).cell 0)
 have hcB:=qd (show∀W w1:World,Below W.heap.size W w1→∀k,W.cell? ⟨k,0,none⟩=some (.int .u8 ((dg (n % 10)).toNat:Int))→(convert 91 9 (.slice (some ⟨k,0,none⟩) 1 1)).run Tryz.prog w1= .ok (.string ⟨#[dg (n % 10)]⟩) w1 from
  fun W w1 hb k hk=>conv_one _ _ _ ((hb.cell (p:=⟨k,0,none⟩) (World.block_lt_of_cell? W _ hk)).trans hk))
 have hcell:=qd ((Blk.new w 5 #[.int .u8 ((dg (n % 10)).toNat:Int)]).cell 0)
 have hsz:∀b:ByteArray,Says (digits (n/10)) b→b.size≤20:=fun b hb=>by
  have:=digits_length 19 (n/10) (by omega);rw[←hb]at this;simpa using this
 have Ih:=qd ih;have Hsz:=qd hsz;clear ih hsz;go_in;go_wp2;go_region_with (go_at_call 40;refine(Ih.out _).mono ?_;rintro e w1 ⟨b,hb,rfl,hb1⟩;have hb20:=Hsz.out _ hb;try (have hq:=hcB.out _ _ hb1 w.heap.size hcell.out))
 all_goals go_wp2
 all_goals go_ret
 ·exact⟨_,says_next h hb,rfl,(un_drew hb1).alloc (un_drew hb1).size _⟩
 ·exact⟨_,says_next h hb,rfl,un_alloc hb1⟩
 ·exact⟨_,says_next h hb,rfl,un_alloc hb1⟩
theorem num_unsigned (n:Nat):∀(w:World),n<18446744073709551616→Calls Tryz.prog 40 #[.int .u64 n] w (TextPost w (digits n)):=by
 induction n using Nat.strongRecOn with
 |_ n ih=>
  intro w hn;by_cases h:n<10
  ·exact unsigned_small n h w
  ·exact unsigned_great n (by omega) hn w fun w'=>ih (n/10) (by omega) w' (by omega)
def figC (h:Bool)(c:UInt8):Bool:=if h then isHex c else isDig c
def figs (h:Bool)(l:List UInt8):Bool:=l.all (figC h)
def figR (h:Bool)(l:List UInt8):Bool:=figs h l && !l.isEmpty
end Go.Proofs.YtfbljmcjadfkoaaGreatDoor

/-! amblernum.Figures of a number that is not below nought, by its contract. -/
namespace Go.Proofs.YtfbljmcjadfkoaaGreatDoor
set_option maxRecDepth 100000
set_option maxHeartbeats 8000000
open Ieee Go.RowKit AmD Go AmF
theorem num_Figures (n:Nat)(hn:n<9223372036854775808)(w:World):Calls Tryz.prog 15 #[.int .i64 (n:Int)] w fun e w'=>∃b,Says (digits n) b∧e= .returned (.string b)∧Below w.heap.size w w':=by
 have HU:=qd (fun(W:World)=>num_unsigned n W (by omega))
 have h0:¬(n:Int)<0:=by omega
 go_in;go_wp2_with fail;refine(HU.out _).mono ?_;rintro e w1 ⟨b,hb,rfl,hb1⟩;go_wp2;go_ret;exact⟨b,hb,rfl,hb1⟩
end Go.Proofs.YtfbljmcjadfkoaaGreatDoor

/-! Figures of base 16, and of base 10, and what they are read as. No program in sight. -/
namespace Go.Proofs.YtfbljmcjadfkoaaGreatDoor
set_option maxRecDepth 100000
set_option maxHeartbeats 8000000
open Ieee Go.RowKit AmD Go AmF
def hexD (d:Nat):UInt8:=UInt8.ofNat (if d<10 then 48+d else 87+d)
def hexF:Nat→Nat→List UInt8
 |0,n=> [hexD n]
 |f+1,n=>if n<16 then [hexD n]else hexF f (n/16)++[hexD (n % 16)]
def hexs (n:Nat):List UInt8:=hexF 16 n
theorem hexF_length:∀(f n:Nat),(hexF f n).length≤f+1
 |0,_=>Nat.le_refl _
 |f+1,n=>by
  rw[hexF];split
  ·simp
  ·have:=hexF_length f (n/16);simp;omega
theorem hexs_length (n:Nat):(hexs n).length≤17:=hexF_length 16 n
theorem hexF_big (f n:Nat)(h:16≤n):hexF (f+1) n=hexF f (n/16)++[hexD (n % 16)]:=by rw[hexF,if_neg (by omega)]
theorem hexF_small (f n:Nat)(h:n<16):hexF f n=[hexD n]:=by
 cases f with
 |zero=>rfl
 |succ f=>rw[hexF,if_pos h]
theorem decDigits_digits (n:Nat):Lib.decDigits n=digits n:=by
 induction n using Nat.strongRecOn with
 |ind n ih=>
  rw[Lib.decDigits];by_cases h:n<10
  ·rw[dif_pos h,digits_small n h];rfl
  ·rw[dif_neg h,digits_great n h,ih (n/10) (by omega)];rfl
end Go.Proofs.YtfbljmcjadfkoaaGreatDoor

/-! gauge.Text and the reference's text by their contracts. -/
namespace Go.Proofs.YtfbljmcjadfkoaaGreatDoor
set_option maxRecDepth 100000
set_option maxHeartbeats 8000000
open Ieee Go.RowKit AmD Go AmF
variable {a t : Nat}
theorem bapp (a b:ByteArray):(a++b).data.toList=a.data.toList++b.data.toList:=by simp
def times (a:Nat):Nat:=(Ieee.double.mul a 4652007308841189376).getD 0
theorem times_low (h:a<4786511204640096256):Ieee.double.mul a 4652007308841189376=some (times a)∧Low (times a):=by
 obtain⟨t,h1,h2⟩:=mul_low h
 have:times a=t:=by unfold times;rw[h1];rfl
 rw[this];exact⟨h1,h2⟩
theorem rounded_le (h:Low t):rounded t≤1125899906842625:=by
 have:=(low_facts h).2.2.2.2;unfold rounded
 split<;>omega
theorem run_mul1000 (h:a<4786511204640096256)(t:TypeId)(W:World):(binOp .mul t (.float .f64 a) (.float .f64 4652007308841189376)).run Tryz.prog W= .ok (.float .f64 (times a)) W:=
 run_float_arith W .mul t .f64 a _ _ (times_low h).1
theorem run_round (h:Low t)(W:World):(convert 56 3 (.float .f64 (roundW t))).run Tryz.prog W= .ok (.int .i64 (rounded t:Int)) W:=
 run_convert_float_int W 56 3 .f64 .i64 _ _ (by rw[Tryz.underlying56];rfl) Tryz.underlying3 (by
  have h1:=(round_int h).1;have h2:=rounded_le h;unfold floatToIntVal;have e:(FloatKind.f64.decode (roundW t)).toInt .zero=some (rounded t:Int):=h1;rw[e];simp only
  rw[if_pos (by rw[show IntKind.i64.min= -9223372036854775808 by decide,show IntKind.i64.max=9223372036854775807 by decide];omega)])
def sgnT (s:Bool):List UInt8:=if s then [45]else []
def textF (x:Nat):List UInt8:=
 if nanB x then [110,97,110]else if infS false x then [43,105,110,102]else if infS true x then [45,105,110,102]
 else if 4786511204640096256≤rung x then [126]else sgnT (sgn x)++milli (rounded (times (rung x)))
theorem nan_rung (x:Nat):nanB (rung x)=nanB x:=by
 unfold nanB;have:rung (rung x)=rung x:=Nat.mod_eq_of_lt (Nat.mod_lt _ (by decide));rw[this]
theorem key_rung (x:Nat):key (rung x)=(rung x:Int):=by
 have h:rung x<9223372036854775808:=Nat.mod_lt _ (by decide);have h1:rung (rung x)=rung x:=Nat.mod_eq_of_lt h
 have h2:sgn (rung x)=false:=by
  unfold sgn;rw[Nat.div_eq_of_lt h];rfl
 unfold key;rw[h1,h2];rfl
theorem key_w12:key 4786511204640096256=4786511204640096256:=by decide
theorem nan_w12:nanB 4786511204640096256=false:=by decide
theorem itoa_nat (i:Nat)(hi:i<9223372036854775808)(W:World)(hT:Lib.TabIs Tryz.prog W "internal/strconv.uint64pow10" .u64 Lib.pow10Tab):Calls Tryz.prog 22 #[.int .i64 (i:Int)] W fun e w'=>e= .returned (strV (digits i))∧Below W.heap.size W w':=by
 refine(Tryz.strconv_Itoa (i:Int) (by omega) (by omega) W hT).mono ?_;rintro e w' ⟨he,k,os,hw⟩;rw[Lib.itoa_nonneg,decDigits_digits]at he;exact⟨he,hw▸Lib.below_grow _ W (Nat.le_refl _) k os⟩
theorem repeatL_one:∀(c:UInt8) (k:Nat),Lib.repeatL [c] k=List.replicate k c
 |_,0=>rfl
 |c,k+1=>by
  have:=repeatL_one c k;unfold Lib.repeatL;rw[this];rfl
theorem gauge_Text_odd (x:Nat)(hx:x<18446744073709551616)(w:World)(h:nanB x=true∨infS false x=true∨infS true x=true∨4786511204640096256≤rung x):
  Calls Tryz.prog 18 #[.float .f64 x] w fun e w'=>e= .returned (strV (textF x))∧w=w':=by
 have HN:=qd (fun(W:World)=>math_IsNaN x W)
 cases hn:nanB x with
 |true=>
  rw[hn]at HN;have HV:=qd (show textF x=[110,97,110]from by unfold textF;rw[hn];rfl);clear hn h;go_in;go_wp2_with fail;refine(HN.out _).mono ?_;rintro e w1 ⟨rfl,rfl⟩;go_wp2;go_ret;exact⟨ret_val (by rw[HV.out];rfl),rfl⟩
 |false=>
  rw[hn]at HN;have HP:=qd (fun(W:World)=>math_IsInf_pos x W hn);have HM:=qd (fun(W:World)=>math_IsInf_neg x hx W hn)
  cases hp:infS false x with
  |true=>
   rw[hp]at HP;have HV:=qd (show textF x=[43,105,110,102]from by unfold textF;rw[hn,hp];rfl);clear hn hp h;go_in;go_wp2_with fail;refine(HN.out _).mono ?_;rintro e w1 ⟨rfl,rfl⟩;go_wp2_with fail;refine(HP.out _).mono ?_;rintro e w1 ⟨rfl,rfl⟩;go_wp2;go_ret;exact⟨ret_val (by rw[HV.out];rfl),rfl⟩
  |false=>
   rw[hp]at HP
   cases hm:infS true x with
   |true=>
    rw[hm]at HM;have HV:=qd (show textF x=[45,105,110,102]from by unfold textF;rw[hn,hp,hm];rfl);clear hn hp hm h;go_in;go_wp2_with fail;refine(HN.out _).mono ?_;rintro e w1 ⟨rfl,rfl⟩;go_wp2_with fail;refine(HP.out _).mono ?_;rintro e w1 ⟨rfl,rfl⟩;go_wp2_with fail;refine(HM.out _).mono ?_;rintro e w1 ⟨rfl,rfl⟩;go_wp2;go_ret;exact⟨ret_val (by rw[HV.out];rfl),rfl⟩
   |false=>
    rw[hm]at HM
    have hg:4786511204640096256≤rung x:=by
     rcases h with h|h|h|h
     ·rw[hn]at h;cases h
     ·rw[hp]at h;cases h
     ·rw[hm]at h;cases h
     ·exact h
    have HV:=qd (show textF x=[126]from by unfold textF;rw[hn,hp,hm,if_pos hg];rfl);have HA:=qd (fun(W:World)=>math_Abs x hx W)
    have hnr:nanB (rung x)=false:=by rw[nan_rung];exact hn
    have g1:=gt_key hnr nan_w12;have g2:=eq_key hnr nan_w12;rw[key_rung,key_w12]at g1 g2;obtain⟨a,ha⟩:∃a,rung x=a:=⟨_,rfl⟩;rw[ha]at HA hg g1 g2;by_cases hgt:4786511204640096256<a
    ·have q1:(FloatKind.f64.format.order a 4786511204640096256==some .gt)=true:=by rw[g1];simp;omega
     clear hn hp hm h ha hnr g1 g2 hg hgt;go_in;go_wp2_with fail;refine(HN.out _).mono ?_;rintro e w1 ⟨rfl,rfl⟩;go_wp2_with fail;refine(HP.out _).mono ?_;rintro e w1 ⟨rfl,rfl⟩;go_wp2_with fail;refine(HM.out _).mono ?_;rintro e w1 ⟨rfl,rfl⟩;go_wp2_with fail;refine(HA.out _).mono ?_;rintro e w1 ⟨rfl,rfl⟩;go_wp2;go_ret;exact⟨ret_val (by rw[HV.out];rfl),rfl⟩
    ·have q1:(FloatKind.f64.format.order a 4786511204640096256==some .gt)=false:=by rw[g1];simp;omega
     have q2:(FloatKind.f64.format.order a 4786511204640096256==some .eq)=true:=by rw[g2];simp;omega
     clear hn hp hm h ha hnr g1 g2 hg hgt;go_in;go_wp2_with fail;refine(HN.out _).mono ?_;rintro e w1 ⟨rfl,rfl⟩;go_wp2_with fail;refine(HP.out _).mono ?_;rintro e w1 ⟨rfl,rfl⟩;go_wp2_with fail;refine(HM.out _).mono ?_;rintro e w1 ⟨rfl,rfl⟩;go_wp2_with fail;refine(HA.out _).mono ?_;rintro e w1 ⟨rfl,rfl⟩;go_wp2;go_ret;exact⟨ret_val (by rw[HV.out];rfl),rfl⟩
theorem pad_len (n:Nat)(h:(digits n).length≤3):pad4 (digits n)=List.replicate (4-(digits n).length) 48++digits n:=by unfold pad4;rw[if_pos h]
theorem pad_id (n:Nat)(h:¬(digits n).length≤3):pad4 (digits n)=digits n:=by unfold pad4;rw[if_neg h]
theorem cut_milli {z:ByteArray}{n k:Nat}{s:List UInt8}{sg:ByteArray}(hz:z.data.toList=pad4 (digits n))(hk:z.size=k+3)(hs:sg.data.toList=s):
  (sg++z.extract 0 k++⟨#[46]⟩++z.extract k z.size).data.toList=s++milli n:=by
 have hl:z.data.toList.length=z.size:=by simp
 rw[bapp,bapp,bapp,←milli_cut,←hz,hl,hk,Nat.add_sub_cancel,hs]
 have e1:(z.extract 0 k).data.toList=z.data.toList.take k:=by simp[ByteArray.data_extract]
 have e2:(z.extract k (k+3)).data.toList=z.data.toList.drop k:=by
  have:z.data.toList.length=k+3:=by rw[hl,hk]
  simp[ByteArray.data_extract];rw[List.take_of_length_le (by simp;omega)]
 rw[e1,e2];simp
theorem gauge_Text_plain (x:Nat)(hx:x<18446744073709551616)(w:World)(hT:Lib.TabIs Tryz.prog w "internal/strconv.uint64pow10" .u64 Lib.pow10Tab)(hn:nanB x=false)(hp:infS false x=false)(hm:infS true x=false)(hg:rung x<4786511204640096256):
  Calls Tryz.prog 18 #[.float .f64 x] w fun e w'=>e= .returned (strV (textF x))∧Below w.heap.size w w':=by
 have HN:=qd (fun(W:World)=>by have:=math_IsNaN x W;rw[hn]at this;exact this);have HP:=qd (fun(W:World)=>by have:=math_IsInf_pos x W hn;rw[hp]at this;exact this);have HM:=qd (fun(W:World)=>by have:=math_IsInf_neg x hx W hn;rw[hm]at this;exact this);have HA:=qd (fun(W:World)=>math_Abs x hx W);have HS:=qd (fun(W:World)=>math_Signbit x hx W);have HV:=qd (show textF x=sgnT (sgn x)++milli (rounded (times (rung x)))from by unfold textF;rw[hn,hp,hm];simp only[Bool.false_eq_true,if_false];rw[if_neg (by omega)])
 have hnr:nanB (rung x)=false:=by rw[nan_rung];exact hn
 have g1:=gt_key hnr nan_w12;have g2:=eq_key hnr nan_w12;rw[key_rung,key_w12]at g1 g2;have hlow:=(times_low hg).2;have hmul:=run_mul1000 hg;obtain⟨a,ha⟩:∃a,rung x=a:=⟨_,rfl⟩;rw[ha]at HA g1 g2 HV hlow hmul hg
 have q1:(FloatKind.f64.format.order a 4786511204640096256==some .gt)=false:=by rw[g1];simp;omega
 have q2:(FloatKind.f64.format.order a 4786511204640096256==some .eq)=false:=by rw[g2];simp;omega
 obtain⟨t,ht⟩:∃t,times a=t:=⟨_,rfl⟩;rw[ht]at HV hlow hmul;have HR:=qd (fun(W:World)=>math_Round_low t hlow W);have hcv:=run_round hlow;have hrl:=rounded_le hlow;obtain⟨n,hnn⟩:∃n,rounded t=n:=⟨_,rfl⟩;rw[hnn]at HV hcv hrl;obtain⟨z,hz⟩:∃z:ByteArray,(⟨(digits n).toArray⟩:ByteArray)=z:=⟨_,rfl⟩
 have HI:=qd (fun(W:World) (hW:Lib.TabIs Tryz.prog W "internal/strconv.uint64pow10" .u64 Lib.pow10Tab)=>show Calls Tryz.prog 22 #[.int .i64 (n:Int)] W (fun e w'=>e= .returned (.string z)∧Below W.heap.size W w')from by have:=itoa_nat n (by omega) W hW;unfold strV at this;rw[hz]at this;exact this)
 have hzl:z.size=(digits n).length:=by rw[←hz];show(digits n).toArray.size=_;simp
 have hz0:0<z.size:=by rw[hzl];exact List.length_pos_iff.2 (digits_ne n)
 have hz20:z.size≤20:=by
  have:=digits_length 18 n (by have e:(10:Nat)^(18+1)=10000000000000000000:=(by decide);omega);omega
 have HZ:=qd (show z.data.toList=digits n from by rw[←hz])
 have HRep:=qd (fun(c:Nat) (W:World) (hc:c≤4)=>show Calls Tryz.prog 46 #[.string ⟨#[48]⟩,.int .i64 (c:Int)] W (fun e w'=>e= .returned (.string ⟨(List.replicate c 48).toArray⟩)∧Below W.heap.size W w')from by
  have:=Tryz.strings_Repeat ⟨#[48]⟩ c W (by omega) (by show 1*c≤_;omega);rw[repeatL_one]at this
  exact this)
 rw[hzl]at hz0 hz20;have HZL:=qd hzl;have HTab:=qd hT;have HZ20:=qd (show z.size≤20 from by omega);clear hn hp hm hnr g1 g2 hlow ha ht hnn hz hzl hT hrl hg hz0 hz20
 cases hsg:sgn x with
 |true=>
  rw[hsg]at HS HV;clear hsg;go_in;go_wp2_with fail;refine(HN.out _).mono ?_;rintro e w1 ⟨rfl,rfl⟩;go_wp2_with fail;refine(HP.out _).mono ?_;rintro e w1 ⟨rfl,rfl⟩;go_wp2_with fail;refine(HM.out _).mono ?_;rintro e w1 ⟨rfl,rfl⟩;go_wp2_with fail;refine(HA.out _).mono ?_;rintro e w1 ⟨rfl,rfl⟩;go_wp2_with fail;refine(HS.out _).mono ?_;rintro e w1 ⟨rfl,rfl⟩;go_upto_region 12 with fail;go_wp2_with fail;refine(HA.out _).mono ?_;rintro e w1 ⟨rfl,rfl⟩;go_wp2_with fail;refine(HR.out _).mono ?_;rintro e w1 ⟨rfl,rfl⟩;go_wp2_with fail;refine(HI.out _ HTab.out).mono ?_;rintro e w1 ⟨rfl,hb1⟩;by_cases h3:(digits n).length≤3
  ·have hz3:(z.size:Int)≤3:=by have:=HZL.out;omega
   have hz1:(1:Int)≤(z.size:Int):=by have:=HZL.out;have:=List.length_pos_iff.2 (digits_ne n);omega
   have hc4:(4:Int)-(z.size:Int)=((4-z.size:Nat):Int):=by omega
   have HC4:=qd hc4;have HPad:=qd (pad_len n h3);clear h3 hc4;go_wp2_with fail;rw[HC4.out];refine(HRep.out _ _ (by omega)).mono ?_;rintro e w2 ⟨rfl,hb2⟩;obtain⟨r,hr⟩:∃r:ByteArray,(⟨(List.replicate (4-z.size) 48).toArray⟩:ByteArray)=r:=⟨_,rfl⟩;rw[hr];obtain⟨y,hy⟩:∃y:ByteArray,r++z=y:=⟨_,rfl⟩
   have hys:y.size=1+3:=by
    have e1:r.size=4-z.size:=by rw[←hr];show(List.replicate (4-z.size) 48).toArray.size=_;simp
    have e2:=congrArg ByteArray.size hy;rw[ByteArray.size_append,e1]at e2;omega
   have hyd:y.data.toList=pad4 (digits n):=by
    rw[HPad.out,←hy,bapp,HZ.out,←HZL.out,←hr]
   have HY:=qd hy;have HCut:=qd (cut_milli (k:=1) (sg:=⟨#[45]⟩) (s:=sgnT true) hyd hys rfl);have HYS:=qd hys
   have hy4:(y.size:Int)=4:=by omega
   have HY4:=qd hy4
   have hrs:r.size≤4:=by rw[←hr];show(List.replicate (4-z.size) 48).toArray.size≤_;simp
   have hz20:=HZ20.out;clear hr hys hyd;go_wp2_with fail;go_quiet (fail);go_wp2;go_ret;exact⟨ret_val (by rw[HV.out,←HCut.out,strV_data];rfl),below_drewN (hb1.trans (hb2.mono hb1.size)) _⟩
  ·have hz3:¬(z.size:Int)≤3:=by have:=HZL.out;omega
   obtain⟨k,hk⟩:∃k,z.size=k+3:=⟨z.size-3,by have:=HZL.out;omega⟩
   have hyd:z.data.toList=pad4 (digits n):=by rw[pad_id n h3];exact HZ.out
   have HCut:=qd (cut_milli (sg:=⟨#[45]⟩) (s:=sgnT true) hyd hk rfl)
   have hk3:(z.size:Int)-3=(k:Int):=by omega
   have hk0:(k:Int)≤(z.size:Int):=by omega
   have hz20:=HZ20.out;clear h3 hk hyd;go_wp2_with fail;go_quiet (fail);go_wp2;go_ret;exact⟨ret_val (by rw[HV.out,←HCut.out,strV_data];rfl),below_drewN hb1 _⟩
 |false=>
  rw[hsg]at HS HV;clear hsg;go_in;go_wp2_with fail;refine(HN.out _).mono ?_;rintro e w1 ⟨rfl,rfl⟩;go_wp2_with fail;refine(HP.out _).mono ?_;rintro e w1 ⟨rfl,rfl⟩;go_wp2_with fail;refine(HM.out _).mono ?_;rintro e w1 ⟨rfl,rfl⟩;go_wp2_with fail;refine(HA.out _).mono ?_;rintro e w1 ⟨rfl,rfl⟩;go_wp2_with fail;refine(HS.out _).mono ?_;rintro e w1 ⟨rfl,rfl⟩;go_upto_region 12 with fail;go_wp2_with fail;refine(HA.out _).mono ?_;rintro e w1 ⟨rfl,rfl⟩;go_wp2_with fail;refine(HR.out _).mono ?_;rintro e w1 ⟨rfl,rfl⟩;go_wp2_with fail;refine(HI.out _ HTab.out).mono ?_;rintro e w1 ⟨rfl,hb1⟩;by_cases h3:(digits n).length≤3
  ·have hz3:(z.size:Int)≤3:=by have:=HZL.out;omega
   have hz1:(1:Int)≤(z.size:Int):=by have:=HZL.out;have:=List.length_pos_iff.2 (digits_ne n);omega
   have hc4:(4:Int)-(z.size:Int)=((4-z.size:Nat):Int):=by omega
   have HC4:=qd hc4;have HPad:=qd (pad_len n h3);clear h3 hc4;go_wp2_with fail;rw[HC4.out];refine(HRep.out _ _ (by omega)).mono ?_;rintro e w2 ⟨rfl,hb2⟩;obtain⟨r,hr⟩:∃r:ByteArray,(⟨(List.replicate (4-z.size) 48).toArray⟩:ByteArray)=r:=⟨_,rfl⟩;rw[hr];obtain⟨y,hy⟩:∃y:ByteArray,r++z=y:=⟨_,rfl⟩
   have hys:y.size=1+3:=by
    have e1:r.size=4-z.size:=by rw[←hr];show(List.replicate (4-z.size) 48).toArray.size=_;simp
    have e2:=congrArg ByteArray.size hy;rw[ByteArray.size_append,e1]at e2;omega
   have hyd:y.data.toList=pad4 (digits n):=by
    rw[HPad.out,←hy,bapp,HZ.out,←HZL.out,←hr]
   have HY:=qd hy;have HCut:=qd (cut_milli (k:=1) (sg:=⟨#[]⟩) (s:=sgnT false) hyd hys rfl);have HYS:=qd hys
   have hy4:(y.size:Int)=4:=by omega
   have HY4:=qd hy4
   have hrs:r.size≤4:=by rw[←hr];show(List.replicate (4-z.size) 48).toArray.size≤_;simp
   have hz20:=HZ20.out;clear hr hys hyd;go_wp2_with fail;go_quiet (fail);go_wp2;go_ret;exact⟨ret_val (by rw[HV.out,←HCut.out,strV_data];rfl),below_drewN (hb1.trans (hb2.mono hb1.size)) _⟩
  ·have hz3:¬(z.size:Int)≤3:=by have:=HZL.out;omega
   obtain⟨k,hk⟩:∃k,z.size=k+3:=⟨z.size-3,by have:=HZL.out;omega⟩
   have hyd:z.data.toList=pad4 (digits n):=by rw[pad_id n h3];exact HZ.out
   have HCut:=qd (cut_milli (sg:=⟨#[]⟩) (s:=sgnT false) hyd hk rfl)
   have hk3:(z.size:Int)-3=(k:Int):=by omega
   have hk0:(k:Int)≤(z.size:Int):=by omega
   have hz20:=HZ20.out;clear h3 hk hyd;go_wp2_with fail;go_quiet (fail);go_wp2;go_ret;exact⟨ret_val (by rw[HV.out,←HCut.out,strV_data];rfl),below_drewN hb1 _⟩
end Go.Proofs.YtfbljmcjadfkoaaGreatDoor
