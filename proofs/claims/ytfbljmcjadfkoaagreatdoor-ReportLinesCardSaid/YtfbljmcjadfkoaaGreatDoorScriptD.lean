/- A record's line, by the program and by the statement, by their contracts. No statement of the claim. -/
import Derived.Test.YtfbljmcjadfkoaaGreatDoorPaD
import Derived.Test.YtfbljmcjadfkoaaGreatDoorSq
import Derived.Test.YtfbljmcjadfkoaaGreatDoorDecP
import Derived.Test.YtfbljmcjadfkoaaGreatDoorProg
import Derived.KernelRfl
import Derived.WalkKit
import Derived.WalkSpells
import Derived.WalkLawsBesides
import Derived.Outline
import Derived.BigQuiet
import Derived.Deep.QuietTactic
import Derived.Test.YtfbljmcjadfkoaaGreatDoorGaugeB
import Derived.Test.YtfbljmcjadfkoaaGreatDoorCoH
import Derived.Test.YtfbljmcjadfkoaaGreatDoorShelf
import Derived.Lib.Walk
import Derived.Lib.AtoiErrMem
import Derived.Lib.ParseIntBMem
import Derived.Laws.Strings3
import Derived.Laws.Closers25
import Derived.BigCall
import Derived.BigGuard
import Derived.Lib.Fields
import Derived.Lib.IndexMore
import Derived.Lib.SplitLaws
import Derived.Lib.CutLaws
import Derived.Lib.Join
namespace Go.Proofs.YtfbljmcjadfkoaaGreatDoor
set_option maxRecDepth 100000
set_option maxHeartbeats 4000000
open Go.RowKit Go.Shelf AmC AmL AmF AmD Go
variable {w w' : World} {base n rb : Nat} {F : List Nat}
abbrev PowIn (w:World):Prop:=Lib.TabIs Tryz.prog w "internal/strconv.uint64pow10" .u64 Lib.pow10Tab
theorem gPowR:Tryz.prog.globalNamed "internal/strconv.uint64pow10" =some 12 :=by kernel_rfl
theorem pow_next (h:PowIn w)(hb:Below w.heap.size w w'):PowIn w':=by
 unfold PowIn Lib.TabIs World.var? at h⊢;simp only[gPowR,Option.bind_some]at h⊢
 have hlt:12 <w.heap.size:=by
  rcases Nat.lt_or_ge 12 w.heap.size with h1|h1
  ·exact h1
  ·simp[Array.getElem?_eq_none h1]at h
 rw[hb.block _ hlt];exact h
theorem itoa_any (n:Int)(h0: -9223372036854775808≤n)(h1:n≤9223372036854775807)(W:World)(hT:PowIn W):Calls Tryz.prog 22 #[.int .i64 n] W fun e w'=>e= .returned (strV (Lib.itoa n))∧Below W.heap.size W w':=by
 refine(Tryz.strconv_Itoa n h0 h1 W hT).mono ?_;rintro e w' ⟨he,k,os,hw⟩;exact⟨he,hw▸Lib.below_grow _ W (Nat.le_refl _) k os⟩
theorem PaR.below {l:PL}(h:PaR base w rb F l n)(hb:Below w.heap.size w w'):PaR base w' rb F l n:=by
 obtain⟨v,hB,ho,hF,hb',ha⟩:=h;exact⟨v,hB.below hb hB.lt,own_below ho hb (Nat.le_refl _),hF,hb',ha⟩
structure PaOk (l:PL)(n:Nat):Prop where
 len:l.length≤1000
 many:n≤60
 nums:∀p∈l,p.1≤1099511627776∧p.2≤1000
theorem most_le {l:PL}(h:PaOk l n):mostP l≤1099511627776:=by
 unfold mostP
 cases hl:l.getLast? with
 |none=>simp
 |some p=>exact(h.nums p (List.mem_of_getLast? hl)).1
theorem rank_at {q:Nat}(hq:∀n,n<61→(n==0||rankB q n)=true)(hn:n≤60):n≠0→∃k,rankX q n=some k∧0≤k∧k≤1000:=by
 intro h0;have h:=hq n (by omega);rw[show(n==0)=false by simpa using h0,Bool.false_or]at h;unfold rankB at h
 cases hk:rankX q n with
 |none=>rw[hk]at h;cases h
 |some k=>
  rw[hk]at h;exact⟨k,rfl,(of_decide_eq_true h).1,(of_decide_eq_true h).2⟩
theorem atW_lt (q:Nat)(l:PL)(n:Nat):atW q l n<18446744073709551616:=by
 unfold atW;split
 ·omega
 ·split
  ·exact float_lt _
  ·omega
def rowB (l:PL)(n:Nat):List UInt8:=
 Lib.itoa (mostP l:Int)++32::(Lib.itoa (sumP l 0:Int)++32::(textQ (meanQ l n)++32::(textF (atW 4602678819172646912 l n)++32::textF (atW 4607092346807469998 l n))))
theorem line_row (b1 b2 b3 b4 b5:List UInt8):((((((((⟨b1.toArray⟩:ByteArray)++⟨#[32]⟩)++⟨b2.toArray⟩)++⟨#[32]⟩)++⟨b3.toArray⟩)++⟨#[32]⟩)++⟨b4.toArray⟩)++⟨#[32]⟩)++⟨b5.toArray⟩=⟨(b1++32::(b2++32::(b3++32::(b4++32::b5)))).toArray⟩:=by
 apply ByteArray.ext;simp[ByteArray.data_append]
theorem line_law (b0 b1 b2 b3 b4 b5:List UInt8):((((((((((⟨b0.toArray⟩:ByteArray)++⟨#[32]⟩)++⟨b1.toArray⟩)++⟨#[32]⟩)++⟨b2.toArray⟩)++⟨#[32]⟩)++⟨b3.toArray⟩)++⟨#[32]⟩)++⟨b4.toArray⟩)++⟨#[32]⟩)++⟨b5.toArray⟩=⟨(b0++32::(b1++32::(b2++32::(b3++32::(b4++32::b5))))).toArray⟩:=by
 apply ByteArray.ext;simp[ByteArray.data_append]
theorem sz {l:List UInt8}{k:Nat}(h:l.length≤k):(⟨l.toArray⟩:ByteArray).size≤k:=by
 show l.toArray.size≤k;simpa using h
theorem report_record (rb:Nat)(w:World):Calls Tryz.prog 24 #[.pointer (some ⟨rb,0,none⟩)] w fun y w'=>y= .returned (.pointer (some ⟨rb,0,none⟩))∧w=w':=by
 go_in;go_wp2;go_ret;exact⟨rfl,rfl⟩
theorem report_record_nil (w:World):Calls Tryz.prog 24 #[.pointer none] w fun y w'=>∃rb,y= .returned (.pointer (some ⟨rb,0,none⟩))∧PaR w.heap.size w' rb [rb] [] 0∧Below w.heap.size w w':=by
 go_in;go_wp2;go_ret;exact⟨_,rfl,⟨_,Blk.new w 33 #[.slice none 0 0,.int .i64 0],World.ownsRow_nil _ _ _ _,rfl,Nat.le_refl _,List.Pairwise.nil⟩,(Below.refl _ _).alloc (Nat.le_refl _) _⟩
theorem report_row {l:PL}(h:PaR base w rb F l n)(hk:PaOk l n)(hT:PowIn w):
  Calls Tryz.prog 23 #[.pointer (some ⟨rb,0,none⟩)] w fun y w'=>y= .returned (strV (rowB l n))∧Below w.heap.size w w':=by
 have HB0:=qd (Below.refl w.heap.size w);have HMo:=qd (fun(W:World) (hb:Below w.heap.size w W)=>show Calls Tryz.prog 16 #[.pointer (some ⟨rb,0,none⟩)] W (fun y w'=>y= .returned (.int .i64 (mostP l:Int))∧Below W.heap.size W w')from(pa_Most (h.below hb) hk.len).mono fun y w' ⟨a,k,b⟩=>⟨a,b▸below_drewN (Below.refl _ _) k⟩);have HSu:=qd (fun(W:World) (hb:Below w.heap.size w W)=>pa_Sum (h.below hb) hk.len hk.nums);have HMe:=qd (fun(W:World) (hb:Below w.heap.size w W)=>pa_Mean (h.below hb) hk.len hk.nums);have HA1:=qd (fun(W:World) (hb:Below w.heap.size w W)=>pa_At (h.below hb) hk.len (by have:=hk.many;omega) (fun p hp=>(hk.nums p hp).2) 4602678819172646912 (by decide) max_half min_half (rank_at rank_half hk.many));have HA2:=qd (fun(W:World) (hb:Below w.heap.size w W)=>pa_At (h.below hb) hk.len (by have:=hk.many;omega) (fun p hp=>(hk.nums p hp).2) 4607092346807469998 (by decide) max_99 min_99 (rank_at rank_99 hk.many));have hml:=most_le hk;have hsl:=sum_le l 0 (by omega);have HI1:=qd (fun(W:World) (hb:Below w.heap.size w W)=>itoa_any (mostP l:Int) (by omega) (by omega) W (pow_next hT hb));have HI2:=qd (fun(W:World) (hb:Below w.heap.size w W)=>itoa_any (sumP l 0:Int) (by omega) (by omega) W (pow_next hT hb))
 have HTr:=qd (fun(r:Nat) (hr:QuoIs (meanQ l n) r∧r<18446744073709551616) (W:World) (hb:Below w.heap.size w W)=>show Calls Tryz.prog 18 #[.float .f64 r] W (fun e w'=>e= .returned (strV (textQ (meanQ l n)))∧Below W.heap.size W w')from textQ_of hr.1▸gauge_Text r hr.2 W (pow_next hT hb));have HT4:=qd (fun(W:World) (hb:Below w.heap.size w W)=>gauge_Text (atW 4602678819172646912 l n) (atW_lt _ _ _) W (pow_next hT hb));have HT5:=qd (fun(W:World) (hb:Below w.heap.size w W)=>gauge_Text (atW 4607092346807469998 l n) (atW_lt _ _ _) W (pow_next hT hb));have z1:=sz (Lib.itoa_length_le (mostP l:Int) (by omega) (by omega));have z2:=sz (Lib.itoa_length_le (sumP l 0:Int) (by omega) (by omega));have z3:=sz (textQ_len (meanQ l n));have z4:=sz (textF_len (atW 4602678819172646912 l n));have z5:=sz (textF_len (atW 4607092346807469998 l n));unfold rowB;unfold strV at HI1 HI2 HTr HT4 HT5⊢;generalize textF (atW 4602678819172646912 l n)=b4 at HT4 z4⊢;generalize textF (atW 4607092346807469998 l n)=b5 at HT5 z5⊢;generalize textQ (meanQ l n)=b3 at HTr z3⊢;generalize Lib.itoa (sumP l 0:Int)=b2 at HI2 z2⊢;generalize Lib.itoa (mostP l:Int)=b1 at HI1 z1⊢;generalize atW 4602678819172646912 l n=a4 at HA1 HT4;generalize atW 4607092346807469998 l n=a5 at HA2 HT5;obtain⟨s1,hs1⟩:∃s:ByteArray,s=⟨b1.toArray⟩:=⟨_,rfl⟩;obtain⟨s2,hs2⟩:∃s:ByteArray,s=⟨b2.toArray⟩:=⟨_,rfl⟩;obtain⟨s3,hs3⟩:∃s:ByteArray,s=⟨b3.toArray⟩:=⟨_,rfl⟩;obtain⟨s4,hs4⟩:∃s:ByteArray,s=⟨b4.toArray⟩:=⟨_,rfl⟩
 obtain⟨s5,hs5⟩:∃s:ByteArray,s=⟨b5.toArray⟩:=⟨_,rfl⟩;rw[←hs1]at HI1 z1;rw[←hs2]at HI2 z2;rw[←hs3]at HTr z3;rw[←hs4]at HT4 z4;rw[←hs5]at HT5 z5;obtain⟨res,hres⟩:∃s:ByteArray,s=((((((((s1++⟨#[32]⟩)++s2)++⟨#[32]⟩)++s3)++⟨#[32]⟩)++s4)++⟨#[32]⟩)++s5):=⟨_,rfl⟩;rw[show(⟨(b1++32::(b2++32::(b3++32::(b4++32::b5)))).toArray⟩:ByteArray)=res from by rw[hres,hs1,hs2,hs3,hs4,hs5];exact(line_row b1 b2 b3 b4 b5).symm];have HRes:=qd hres
 have q0:¬9223372036854775807<s1.size+1:=by omega
 have q1:¬9223372036854775807<s1.size+1+s2.size:=by omega
 have q2:¬9223372036854775807<s1.size+1+s2.size+1:=by omega
 have q3:¬9223372036854775807<s1.size+1+s2.size+1+s3.size:=by omega
 have q4:¬9223372036854775807<s1.size+1+s2.size+1+s3.size+1:=by omega
 have q5:¬9223372036854775807<s1.size+1+s2.size+1+s3.size+1+s4.size:=by omega
 have q6:¬9223372036854775807<s1.size+1+s2.size+1+s3.size+1+s4.size+1:=by omega
 have q7:¬9223372036854775807<s1.size+1+s2.size+1+s3.size+1+s4.size+1+s5.size:=by omega
 clear hres hs1 hs2 hs3 hs4 hs5 h hk hT hml hsl;go_in;go_wp2_with fail;refine(HMo.out _ HB0.out).mono ?_;rintro y w1 ⟨rfl,hb1⟩;have HB1:=qd (HB0.out.trans (hb1.mono HB0.out.size));clear hb1 HB0 HMo;go_wp2_with fail;refine(HI1.out _ HB1.out).mono ?_;rintro y w2 ⟨rfl,hb2⟩;have HB2:=qd (HB1.out.trans (hb2.mono HB1.out.size));clear hb2 HB1 HI1;go_wp2_with fail;refine(HSu.out _ HB2.out).mono ?_;rintro y w3 ⟨rfl,hb3⟩;have HB3:=qd (HB2.out.trans (hb3.mono HB2.out.size));clear hb3 HB2 HSu;go_wp2_with fail;refine(HI2.out _ HB3.out).mono ?_;rintro y w4 ⟨rfl,hb4⟩;have HB4:=qd (HB3.out.trans (hb4.mono HB3.out.size));clear hb4 HB3 HI2;go_wp2_with fail;refine(HMe.out _ HB4.out).mono ?_;rintro y w5 ⟨r,hq,rfl,hb5⟩;have HT3:=qd (fun(W:World) (hb:Below w.heap.size w W)=>HTr.out r hq W hb);clear hq;have HB5:=qd (HB4.out.trans (hb5.mono HB4.out.size));clear hb5 HB4 HMe;go_wp2_with fail;refine(HT3.out _ HB5.out).mono ?_;rintro y w6 ⟨rfl,hb6⟩;have HB6:=qd (HB5.out.trans (hb6.mono HB5.out.size));clear hb6 HB5 HT3;go_wp2_with fail;refine(HA1.out _ HB6.out).mono ?_;rintro y w7 ⟨rfl,hb7⟩;have HB7:=qd (HB6.out.trans (hb7.mono HB6.out.size));clear hb7 HB6 HA1;go_wp2_with fail;refine(HT4.out _ HB7.out).mono ?_;rintro y w8 ⟨rfl,hb8⟩;have HB8:=qd (HB7.out.trans (hb8.mono HB7.out.size));clear hb8 HB7 HT4;go_wp2_with fail;refine(HA2.out _ HB8.out).mono ?_;rintro y w9 ⟨rfl,hb9⟩;have HB9:=qd (HB8.out.trans (hb9.mono HB8.out.size));clear hb9 HB8 HA2;go_wp2_with fail;refine(HT5.out _ HB9.out).mono ?_
 rintro y w10 ⟨rfl,hb10⟩;have HB10:=qd (HB9.out.trans (hb10.mono HB9.out.size));clear hb10 HB9 HT5;go_wp2;go_ret;exact⟨by rw[HRes.out];rfl,HB10.out⟩
theorem law40_row {l:PL}(h:PaR base w rb F l n)(hk:PaOk l n)(hT:PowIn w)(b0:List UInt8)(h0:b0.length≤100):
  Calls Tryz.prog 7 #[strV b0,.pointer (some ⟨rb,0,none⟩)] w fun y w'=>y= .returned (strV (b0++32::rowB l n))∧Below w.heap.size w w':=by
 have HB0:=qd (Below.refl w.heap.size w);have HMo:=qd (fun(W:World) (hb:Below w.heap.size w W)=>show Calls Tryz.prog 16 #[.pointer (some ⟨rb,0,none⟩)] W (fun y w'=>y= .returned (.int .i64 (mostP l:Int))∧Below W.heap.size W w')from(pa_Most (h.below hb) hk.len).mono fun y w' ⟨a,k,b⟩=>⟨a,b▸below_drewN (Below.refl _ _) k⟩);have HSu:=qd (fun(W:World) (hb:Below w.heap.size w W)=>pa_Sum (h.below hb) hk.len hk.nums);have HMe:=qd (fun(W:World) (hb:Below w.heap.size w W)=>pa_Mean (h.below hb) hk.len hk.nums);have HA1:=qd (fun(W:World) (hb:Below w.heap.size w W)=>pa_At (h.below hb) hk.len (by have:=hk.many;omega) (fun p hp=>(hk.nums p hp).2) 4602678819172646912 (by decide) max_half min_half (rank_at rank_half hk.many));have HA2:=qd (fun(W:World) (hb:Below w.heap.size w W)=>pa_At (h.below hb) hk.len (by have:=hk.many;omega) (fun p hp=>(hk.nums p hp).2) 4607092346807469998 (by decide) max_99 min_99 (rank_at rank_99 hk.many));have hml:=most_le hk;have hsl:=sum_le l 0 (by omega);have HI1:=qd (fun(W:World) (hb:Below w.heap.size w W)=>num_FiguresAny (mostP l:Int) (by omega) (by omega) W);have HI2:=qd (fun(W:World) (hb:Below w.heap.size w W)=>num_FiguresAny (sumP l 0:Int) (by omega) (by omega) W)
 have HTr:=qd (fun(r:Nat) (hr:QuoIs (meanQ l n) r∧r<18446744073709551616) (W:World) (hb:Below w.heap.size w W)=>show Calls Tryz.prog 18 #[.float .f64 r] W (fun e w'=>e= .returned (strV (textQ (meanQ l n)))∧Below W.heap.size W w')from textQ_of hr.1▸gauge_Text r hr.2 W (pow_next hT hb));have HT4:=qd (fun(W:World) (hb:Below w.heap.size w W)=>gauge_Text (atW 4602678819172646912 l n) (atW_lt _ _ _) W (pow_next hT hb));have HT5:=qd (fun(W:World) (hb:Below w.heap.size w W)=>gauge_Text (atW 4607092346807469998 l n) (atW_lt _ _ _) W (pow_next hT hb));have z1:=sz (Lib.itoa_length_le (mostP l:Int) (by omega) (by omega));have z2:=sz (Lib.itoa_length_le (sumP l 0:Int) (by omega) (by omega));have z3:=sz (textQ_len (meanQ l n));have z4:=sz (textF_len (atW 4602678819172646912 l n));have z5:=sz (textF_len (atW 4607092346807469998 l n));unfold rowB;unfold strV at HI1 HI2 HTr HT4 HT5⊢;generalize textF (atW 4602678819172646912 l n)=b4 at HT4 z4⊢;generalize textF (atW 4607092346807469998 l n)=b5 at HT5 z5⊢;generalize textQ (meanQ l n)=b3 at HTr z3⊢;generalize Lib.itoa (sumP l 0:Int)=b2 at HI2 z2⊢;generalize Lib.itoa (mostP l:Int)=b1 at HI1 z1⊢;generalize atW 4602678819172646912 l n=a4 at HA1 HT4;generalize atW 4607092346807469998 l n=a5 at HA2 HT5;have z0:=sz h0;obtain⟨s0,hs0⟩:∃s:ByteArray,s=⟨b0.toArray⟩:=⟨_,rfl⟩;rw[←hs0]at z0;obtain⟨s1,hs1⟩:∃s:ByteArray,s=⟨b1.toArray⟩:=⟨_,rfl⟩;obtain⟨s2,hs2⟩:∃s:ByteArray,s=⟨b2.toArray⟩:=⟨_,rfl⟩
 obtain⟨s3,hs3⟩:∃s:ByteArray,s=⟨b3.toArray⟩:=⟨_,rfl⟩;obtain⟨s4,hs4⟩:∃s:ByteArray,s=⟨b4.toArray⟩:=⟨_,rfl⟩;obtain⟨s5,hs5⟩:∃s:ByteArray,s=⟨b5.toArray⟩:=⟨_,rfl⟩;rw[←hs1]at HI1 z1;rw[←hs2]at HI2 z2;rw[←hs3]at HTr z3;rw[←hs4]at HT4 z4;rw[←hs5]at HT5 z5;obtain⟨res,hres⟩:∃s:ByteArray,s=((((((((((s0++⟨#[32]⟩)++s1)++⟨#[32]⟩)++s2)++⟨#[32]⟩)++s3)++⟨#[32]⟩)++s4)++⟨#[32]⟩)++s5):=⟨_,rfl⟩;rw[show(⟨(b0++32::(b1++32::(b2++32::(b3++32::(b4++32::b5))))).toArray⟩:ByteArray)=res from by rw[hres,hs1,hs2,hs3,hs4,hs5,hs0];exact(line_law b0 b1 b2 b3 b4 b5).symm];have HRes:=qd hres;rw[←hs0]
 have q0:¬9223372036854775807<s0.size+1:=by omega
 have q1:¬9223372036854775807<s0.size+1+s1.size:=by omega
 have q2:¬9223372036854775807<s0.size+1+s1.size+1:=by omega
 have q3:¬9223372036854775807<s0.size+1+s1.size+1+s2.size:=by omega
 have q4:¬9223372036854775807<s0.size+1+s1.size+1+s2.size+1:=by omega
 have q5:¬9223372036854775807<s0.size+1+s1.size+1+s2.size+1+s3.size:=by omega
 have q6:¬9223372036854775807<s0.size+1+s1.size+1+s2.size+1+s3.size+1:=by omega
 have q7:¬9223372036854775807<s0.size+1+s1.size+1+s2.size+1+s3.size+1+s4.size:=by omega
 have q8:¬9223372036854775807<s0.size+1+s1.size+1+s2.size+1+s3.size+1+s4.size+1:=by omega
 have q9:¬9223372036854775807<s0.size+1+s1.size+1+s2.size+1+s3.size+1+s4.size+1+s5.size:=by omega
 clear hres hs0 hs1 hs2 hs3 hs4 hs5 h hk hT hml hsl h0;go_in;go_wp2_with fail;refine(HMo.out _ HB0.out).mono ?_;rintro y w1 ⟨rfl,hb1⟩;have HB1:=qd (HB0.out.trans (hb1.mono HB0.out.size));clear hb1 HB0 HMo;go_wp2_with fail;refine(HI1.out _ HB1.out).mono ?_;rintro y w2 ⟨rfl,hb2⟩;have HB2:=qd (HB1.out.trans (hb2.mono HB1.out.size));clear hb2 HB1 HI1;go_wp2_with fail;refine(HSu.out _ HB2.out).mono ?_;rintro y w3 ⟨rfl,hb3⟩;have HB3:=qd (HB2.out.trans (hb3.mono HB2.out.size));clear hb3 HB2 HSu;go_wp2_with fail;refine(HI2.out _ HB3.out).mono ?_;rintro y w4 ⟨rfl,hb4⟩;have HB4:=qd (HB3.out.trans (hb4.mono HB3.out.size));clear hb4 HB3 HI2;go_wp2_with fail;refine(HMe.out _ HB4.out).mono ?_;rintro y w5 ⟨r,hq,rfl,hb5⟩;have HT3:=qd (fun(W:World) (hb:Below w.heap.size w W)=>HTr.out r hq W hb);clear hq;have HB5:=qd (HB4.out.trans (hb5.mono HB4.out.size));clear hb5 HB4 HMe;go_wp2_with fail;refine(HT3.out _ HB5.out).mono ?_;rintro y w6 ⟨rfl,hb6⟩;have HB6:=qd (HB5.out.trans (hb6.mono HB5.out.size));clear hb6 HB5 HT3;go_wp2_with fail;refine(HA1.out _ HB6.out).mono ?_;rintro y w7 ⟨rfl,hb7⟩;have HB7:=qd (HB6.out.trans (hb7.mono HB6.out.size));clear hb7 HB6 HA1;go_wp2_with fail;refine(HT4.out _ HB7.out).mono ?_;rintro y w8 ⟨rfl,hb8⟩;have HB8:=qd (HB7.out.trans (hb8.mono HB7.out.size));clear hb8 HB7 HT4;go_wp2_with fail;refine(HA2.out _ HB8.out).mono ?_;rintro y w9 ⟨rfl,hb9⟩;have HB9:=qd (HB8.out.trans (hb9.mono HB8.out.size));clear hb9 HB8 HA2;go_wp2_with fail;refine(HT5.out _ HB9.out).mono ?_
 rintro y w10 ⟨rfl,hb10⟩;have HB10:=qd (HB9.out.trans (hb10.mono HB9.out.size));clear hb10 HB9 HT5;go_wp2;go_ret;exact⟨by rw[HRes.out];rfl,HB10.out⟩
end Go.Proofs.YtfbljmcjadfkoaaGreatDoor

/-! The plain law of slices of operations: which stay, all keys. No program in sight. -/
namespace Go.Proofs.YtfbljmcjadfkoaaGreatDoor.AmS
set_option maxRecDepth 100000
set_option maxHeartbeats 4000000
open Go.RowKit Go.Shelf AmC AmL AmF AmD Go AmS
structure SOp where
 kind:Int
 key:Int
 val:Int
 hash:Int
 iter:Int
deriving DecidableEq
def keyedP (k:Int):Bool:=k==1||k==2||k==3
def keyedR (k:Int):Bool:=decide (0<k) && decide (k<4)
def keptF (keep:Nat→SOp→Bool):Nat→List SOp→List SOp
 |_,[]=> []
 |i,o::t=>if keep i o then o::keptF keep (i+1) t else keptF keep (i+1) t
def stops (key:Int)(o:SOp):Bool:=o.kind==5||(o.kind==3 && o.key==key)||(o.kind==2 && o.key==key)
def shrink:List SOp→List SOp
 | []=> []
 |o::t=>if o.kind==2 && !t.any (stops o.key)then o::shrink t else shrink t
def lastR (key:Int):List SOp→Option Nat
 | []=>none
 |o::t=>
  if o.kind==5||(o.kind==3 && o.key==key)then none
  else if o.kind==2 && o.key==key then some t.length
  else lastR key t
def last (key:Int)(l:List SOp):Option Nat:=lastR key l.reverse
def bump (o:SOp)(pre:List SOp)(c:List Bool):List Bool:=
 (List.zipWith (fun x b=>if o.kind==5||(o.kind==2||o.kind==3) && x.key==o.key then false else b) pre c)++[o.kind==2]
def countR:List SOp→List Bool→List SOp→List Bool
 |_,c,[]=>c
 |pre,c,o::t=>countR (pre++[o]) (bump o pre c) t
def count (l:List SOp):List Bool:=countR [] [] l
def counts (l:List SOp):List Bool:=(List.range l.length).map fun i=>match l[i]? with|some o=>o.kind==2 && !(l.drop (i+1)).any (stops o.key)|none=>false
def write (o:SOp):Bool:=o.kind==2||o.kind==3||o.kind==5
def hashesGo (known:List Int):List SOp→List Int
 | []=> []
 |o::t=>if keyedP o.kind then(if known.contains o.key then hashesGo known t else o.key::hashesGo (known++[o.key]) t)else hashesGo known t
def insR (out:List Int)(o:SOp):List Int:=
 let a:=out.takeWhile fun x=>decide (x<o.key)
 let b:=out.dropWhile fun x=>decide (x<o.key)
 if keyedP o.kind && !(b.head?==some o.key)then a++o.key::b else out
def keysR (l:List SOp):List Int:=l.foldl insR []
end Go.Proofs.YtfbljmcjadfkoaaGreatDoor.AmS

/-! The plain law of scripts: which operations are right and consistent, and which row of words is which operation. No program in sight. -/
namespace Go.Proofs.YtfbljmcjadfkoaaGreatDoor.AmS
set_option maxRecDepth 100000
set_option maxHeartbeats 4000000
open Go.RowKit Go.Shelf AmC AmL AmF AmD Go AmS
variable {o : SOp} {e i : Nat}
abbrev Bytes:=List UInt8
def isKind (k:Int):Bool:=decide (1≤k) && decide (k≤8)
def iterK (k:Int):Bool:=k==7||k==8
def rightB (o:SOp):Bool:=
 isKind o.kind && decide (0≤o.iter) && decide (o.iter≤1000000) && (keyedP o.kind||(o.key==0 && o.hash==0)) && (o.kind==2||o.val==0) && (iterK o.kind||o.iter==0)
theorem kinds8' {k:Int}(h:isKind k=true):1≤k∧k≤8:=by
 unfold isKind at h;simpa using h
def clash (a b:SOp):Bool:=keyedP a.kind && keyedP b.kind && a.key==b.key && a.hash !=b.hash
def otherGo (pre:List SOp):List SOp→Option Nat
 | []=>none
 |o::t=>if pre.any (clash o)then some pre.length else otherGo (pre++[o]) t
def other (l:List SOp):Option Nat:=otherGo [] l
def knownAdd (f:Int→Option Int)(o:SOp):Int→Option Int:=if keyedP o.kind then fun y=>if y=o.key then some o.hash else f y else f
def known (l:List SOp):Int→Option Int:=l.foldl knownAdd (fun _=>none)
theorem known_snoc (l:List SOp)(o:SOp):known (l++[o])=knownAdd (known l) o:=by simp[known]
def free (l:List SOp):Prop:=∀a∈l,∀b∈l,clash a b=false
theorem known_mem (x h:Int):∀(n:Nat) (l:List SOp),l.length=n→known l x=some h→∃o∈l,keyedP o.kind=true∧o.key=x∧o.hash=h:=by
 intro n
 induction n with
 |zero=>
  intro l hl hk;obtain rfl:=List.length_eq_zero_iff.1 hl;cases hk
 |succ n ih=>
  intro l hl hk
  have hne:l≠[]:=fun e=>by rw[e]at hl;simp at hl
  have e:=List.dropLast_concat_getLast hne;rw[←e,known_snoc]at hk;unfold knownAdd at hk;split at hk
  ·next hkd=>
   by_cases hx:x=(l.getLast hne).key
   ·simp only[hx,if_true]at hk;exact⟨_,List.getLast_mem hne,hkd,hx.symm,by injection hk⟩
   ·simp only[hx,if_false]at hk;obtain⟨o,ho,r⟩:=ih l.dropLast (by simp;omega) hk;exact⟨o,List.dropLast_subset _ ho,r⟩
  ·obtain⟨o,ho,r⟩:=ih l.dropLast (by simp;omega) hk;exact⟨o,List.dropLast_subset _ ho,r⟩
theorem known_none (x:Int):∀(n:Nat) (l:List SOp),l.length=n→known l x=none→∀o∈l,keyedP o.kind=true→o.key≠x:=by
 intro n
 induction n with
 |zero=>
  intro l hl _ o ho;obtain rfl:=List.length_eq_zero_iff.1 hl;cases ho
 |succ n ih=>
  intro l hl hk o ho hkd
  have hne:l≠[]:=fun e=>by rw[e]at hl;simp at hl
  have e:=List.dropLast_concat_getLast hne;rw[←e,known_snoc]at hk;rw[←e]at ho;unfold knownAdd at hk;rcases List.mem_append.1 ho with ho|ho
  ·refine ih l.dropLast (by simp;omega) ?_ o ho hkd;split at hk
   ·by_cases hx:x=(l.getLast hne).key
    ·simp only[hx,if_true]at hk;cases hk
    ·simpa only[hx,if_false]using hk
   ·exact hk
  ·obtain rfl:o=l.getLast hne:=by simpa using ho
   rw[if_pos hkd]at hk;intro hx;rw[hx]at hk;simp at hk
theorem clash_known {l:List SOp}(hf:free l)(o:SOp):l.any (clash o)=(keyedP o.kind && match known l o.key with|some h=>h !=o.hash|none=>false):=by
 cases hkd:keyedP o.kind with
 |false=>
  rw[Bool.false_and,Bool.eq_false_iff];intro h;obtain⟨x,_,hx⟩:=List.any_eq_true.1 h;simp[clash,hkd]at hx
 |true=>
  rw[Bool.true_and]
  cases hk:known l o.key with
  |none=>
   rw[Bool.eq_false_iff];intro h;obtain⟨x,hx,hc⟩:=List.any_eq_true.1 h;simp only[clash,Bool.and_eq_true,beq_iff_eq]at hc;exact known_none _ _ l rfl hk x hx hc.1.1.2 hc.1.2.symm
  |some h=>
   obtain⟨x,hx,hxk,hxe,hxh⟩:=known_mem _ _ _ l rfl hk;by_cases hh:h=o.hash
   ·have e:(h !=o.hash)=false:=by simp[hh]
    simp only[e];rw[Bool.eq_false_iff];intro hany;obtain⟨y,hy,hc⟩:=List.any_eq_true.1 hany;simp only[clash,Bool.and_eq_true,beq_iff_eq,bne_iff_ne]at hc;have:=hf x hx y hy;simp only[clash,hxk,hc.1.1.2,Bool.true_and]at this;rw[hxe,hc.1.2]at this;simp only[beq_self_eq_true,Bool.true_and,bne_eq_false_iff_eq]at this;exact hc.2 (by rw[←hh,←hxh,this])
   ·have e:(h !=o.hash)=true:=by simp[hh]
    simp only[e];refine List.any_eq_true.2 ⟨x,hx, ?_⟩;simp only[clash,hkd,hxk,hxe,hxh,Bool.true_and,beq_self_eq_true];simpa using fun e=>hh e.symm
theorem clash_comm (a b:SOp):clash a b=clash b a:=by
 unfold clash;rw[Bool.eq_iff_iff];simp only[Bool.and_eq_true,beq_iff_eq,bne_iff_ne];constructor
 ·rintro⟨⟨⟨h1,h2⟩,h3⟩,h4⟩;exact⟨⟨⟨h2,h1⟩,h3.symm⟩,fun e=>h4 e.symm⟩
 ·rintro⟨⟨⟨h1,h2⟩,h3⟩,h4⟩;exact⟨⟨⟨h2,h1⟩,h3.symm⟩,fun e=>h4 e.symm⟩
theorem clash_self (a:SOp):clash a a=false:=by simp[clash]
theorem free_snoc {l:List SOp}(hf:free l)(h:l.any (clash o)=false):free (l++[o]):=by
 have H:∀b∈l,clash o b=false:=by
  intro b hb;rw[Bool.eq_false_iff]at h⊢;exact fun e=>h (List.any_eq_true.2 ⟨b,hb,e⟩)
 intro a ha b hb;rcases List.mem_append.1 ha with ha|ha
 ·rcases List.mem_append.1 hb with hb|hb
  ·exact hf a ha b hb
  ·have hbo:b=o:=by simpa using hb
   rw[hbo,clash_comm];exact H a ha
 ·obtain rfl:a=o:=by simpa using ha
  rcases List.mem_append.1 hb with hb|hb
  ·exact H b hb
  ·obtain rfl:b=a:=by simpa using hb
   exact clash_self b
theorem free_nil:free []:=fun a ha=>by cases ha
def sameKeyed (o x:SOp):Bool:=keyedP x.kind && x.key==o.key
def firstsGo (pre:List SOp):List SOp→List SOp
 | []=> []
 |o::t=>if keyedP o.kind && !pre.any (sameKeyed o)then o::firstsGo (pre++[o]) t else firstsGo (pre++[o]) t
def firsts (l:List SOp):List SOp:=firstsGo [] l
def cnt (l:List SOp)(x:Int):Nat:=l.countP fun o=>keyedP o.kind && o.key==x
def names:List (List UInt8):=[[],[103,101,116],[112,117,116],[100,101,108],[108,101,110],[99,108,101,97,114],[111,112,101,110],[110,101,120,116],[99,108,111,115,101]]
def wordOf (k:Int):(List UInt8):=if isKind k then names.getD k.toNat []else []
def kindOf (w:(List UInt8)):Nat:=
 if w=[103,101,116]then 1 else if w=[112,117,116]then 2 else if w=[100,101,108]then 3 else if w=[108,101,110]then 4 else if w=[99,108,101,97,114]then 5
 else if w=[111,112,101,110]then 6 else if w=[110,101,120,116]then 7 else if w=[99,108,111,115,101]then 8 else 0
def manyOf (k:Nat):Nat:=if k=1∨k=3 then 2 else if k=2 then 3 else if k=7∨k=8 then 1 else 0
def numE (k:Nat)(w:(List UInt8)):Except Nat Nat:=
 if 7≤k then(match dec w with|none=> .error 13|some n=>if 1000000<n then .error 1 else .ok n)
 else(match numOf w with|none=> .error 13|some n=> .ok n)
def numsE (k:Nat)(acc:List Nat):List (List UInt8)→Except Nat (List Nat)
 | []=> .ok acc
 |w::r=>match numE k w with
  | .error e=> .error e
  | .ok n=>numsE k (acc++[n]) r
def opOf (k:Nat)(ns:List Nat):SOp:=
 {kind:=k,key:=if k≤3 then(ns.getD 0 0:Nat)else 0,val:=if k=2 then(ns.getD 1 0:Nat)else 0,hash:=if k≤3 then(ns.getD (ns.length-1) 0:Nat)else 0,iter:=if 7≤k then(ns.getD 0 0:Nat)else 0}
def one:List (List UInt8)→Except Nat SOp
 | []=> .error 15
 |w::r=>if kindOf w=0 then .error 15 else if r.length≠manyOf (kindOf w)then .error 3 else
  match numsE (kindOf w) [] r with
  | .error e=> .error e
  | .ok ns=> .ok (opOf (kindOf w) ns)
end Go.Proofs.YtfbljmcjadfkoaaGreatDoor.AmS

/-! Rows of operations in memory. No statement of the claim. -/
namespace Go.Proofs.YtfbljmcjadfkoaaGreatDoor
set_option maxRecDepth 100000
set_option maxHeartbeats 4000000
open Go.RowKit Go.Shelf AmC AmL AmF AmD Go AmS
variable {k : Nat} {l : List SOp} {o : SOp} {x : Int}
def opCells (o:SOp):List Value:=[.int .i64 o.kind,.int .u64 o.key,.int .u64 o.val,.int .u64 o.hash,.int .i64 o.iter]
def opV (o:SOp):Value:= .agg #[.int .i64 o.kind,.int .u64 o.key,.int .u64 o.val,.int .u64 o.hash,.int .i64 o.iter]
def opsCells (l:List SOp):List Value:=l.flatMap opCells
theorem opsCells_length (l:List SOp):(opsCells l).length=l.length*5:=by
 induction l with
 |nil=>rfl
 |cons o t ih=>
  have:(opsCells (o::t)).length=5+(opsCells t).length:=by simp[opsCells,opCells];omega
  rw[this,ih,List.length_cons];omega
theorem opsCells_get (l:List SOp)(k:Nat)(o:SOp)(h:l[k]?=some o):
  (opsCells l)[k*5]?=some (.int .i64 o.kind)∧(opsCells l)[k*5+1]?=some (.int .u64 o.key)∧(opsCells l)[k*5+2]?=some (.int .u64 o.val)∧
  (opsCells l)[k*5+3]?=some (.int .u64 o.hash)∧(opsCells l)[k*5+4]?=some (.int .i64 o.iter):=by
 have hk:k<l.length:=(List.getElem?_eq_some_iff.1 h).1
 have hl:l=l.take k++o::l.drop (k+1):=by
  have h1:=(List.getElem?_eq_some_iff.1 h).2;rw[←h1,←List.drop_eq_getElem_cons hk,List.take_append_drop]
 have e:opsCells l=opsCells (l.take k)++(opCells o++opsCells (l.drop (k+1))):=by
  conv=>lhs;rw[hl]
  simp[opsCells]
 have hlen:(opsCells (l.take k)).length=k*5:=by rw[opsCells_length,List.length_take];rw[Nat.min_eq_left (by omega)]
 have H:∀j,j<5→(opsCells l)[k*5+j]?=(opCells o)[j]?:=by
  intro j hj;rw[e,List.getElem?_append_right (by omega),hlen,List.getElem?_append_left (by simp[opCells];omega)];congr 1;omega
 refine⟨?_, ?_, ?_, ?_, ?_⟩
 ·exact H 0 (by omega)
 ·exact H 1 (by omega)
 ·exact H 2 (by omega)
 ·exact H 3 (by omega)
 ·exact H 4 (by omega)
theorem op_cells {wr:World}{B:Nat}{A:Option Addr}{n:Nat}(h:Reads wr B 5 A n (opsCells l))(ho:l[k]?=some o):∃b off,A=some ⟨b,off,none⟩∧b<B∧
  wr.cell? ⟨b,off+k*5,none⟩=some (.int .i64 o.kind)∧wr.cell? ⟨b,off+k*5+1,none⟩=some (.int .u64 o.key)∧wr.cell? ⟨b,off+k*5+2,none⟩=some (.int .u64 o.val)∧
  wr.cell? ⟨b,off+k*5+3,none⟩=some (.int .u64 o.hash)∧wr.cell? ⟨b,off+k*5+4,none⟩=some (.int .i64 o.iter):=by
 have hk:k<l.length:=(List.getElem?_eq_some_iff.1 ho).1
 have hn:0<n:=by have:=h.1;rw[opsCells_length]at this;omega
 obtain⟨b,off,rfl,hb,hc⟩:=h.cells_ hn;obtain⟨o0,o1,o2,o3,o4⟩:=opsCells_get l k o ho;exact⟨b,off,rfl,hb,hc _ _ o0,hc _ _ o1,hc _ _ o2,hc _ _ o3,hc _ _ o4⟩
def opBlk (o:SOp):Obj:= .cells #[.int .i64 o.kind,.int .u64 o.key,.int .u64 o.val,.int .u64 o.hash,.int .i64 o.iter] 74
def opWf (o:SOp):Prop:= -9223372036854775808≤o.kind∧o.kind<9223372036854775808∧0≤o.key∧o.key<18446744073709551616∧0≤o.val∧o.val<18446744073709551616∧0≤o.hash∧o.hash<18446744073709551616∧
 -9223372036854775808≤o.iter∧o.iter<9223372036854775808
theorem min_u64:IntKind.u64.min=0:=by decide
theorem max_u64:IntKind.u64.max=18446744073709551615:=by decide
theorem wf_u64 (h0:0≤x)(h1:x<18446744073709551616):(Lit.int .u64 x).wf=true:=by
 unfold Lit.wf;simp only[min_u64,max_u64,Bool.and_eq_true,decide_eq_true_eq];omega
theorem take_snoc_op (h:l[k]?=some o):l.take (k+1)=l.take k++[o]:=by
 rw[List.take_add_one,h];rfl
theorem drop_op (h:l[k]?=some o):l.drop k=o::l.drop (k+1):=by
 obtain⟨h1,h2⟩:=List.getElem?_eq_some_iff.1 h;rw[List.drop_eq_getElem_cons h1,h2]
end Go.Proofs.YtfbljmcjadfkoaaGreatDoor

/-! Small functions of package script by their contracts. -/
namespace Go.Proofs.YtfbljmcjadfkoaaGreatDoor
set_option maxRecDepth 100000
set_option maxHeartbeats 4000000
open Go.RowKit Go.Shelf AmC AmL AmF AmD Go AmS
theorem script_is (k:Int)(w:World):Calls Tryz.prog 49 #[.int .i64 k] w fun e w'=>e= .returned (.bool (isKind k))∧w=w':=by
 by_cases h1:1≤k
 ·by_cases h2:k≤8
  all_goals
   go_in;go_wp2;go_ret;exact⟨ret_bool (by simp[isKind];omega),rfl⟩
 ·go_in;go_wp2;go_ret;exact⟨ret_bool (by simp[isKind];omega),rfl⟩
theorem script_keyed (k:Int)(w:World):Calls Tryz.prog 87 #[.int .i64 k] w fun e w'=>e= .returned (.bool (keyedP k))∧w=w':=by
 by_cases h1:k=1
 ·subst h1;go_in;go_wp2;go_ret;exact⟨rfl,rfl⟩
 ·have b1:(k==1)=false:=by simp[h1]
  by_cases h2:k=2
  ·subst h2;go_in;go_wp2;go_ret;exact⟨rfl,rfl⟩
  ·have b2:(k==2)=false:=by simp[h2]
   go_in;go_wp2;go_ret;exact⟨ret_bool (by simp[keyedP,b1,b2]),rfl⟩
theorem script_iterated (k:Int)(w:World):Calls Tryz.prog 88 #[.int .i64 k] w fun e w'=>e= .returned (.bool (iterK k))∧w=w':=by
 by_cases h1:k=7
 ·subst h1;go_in;go_wp2;go_ret;exact⟨rfl,rfl⟩
 ·have b1:(k==7)=false:=by simp[h1]
  go_in;go_wp2;go_ret;exact⟨ret_bool (by simp[iterK,b1]),rfl⟩
theorem script_Right (o:SOp)(w:World):Calls Tryz.prog 55 #[opV o] w fun e w'=>e= .returned (.bool (rightB o))∧w.alloc (opBlk o)=w':=by
 unfold opV opBlk;go_in
 go_wp2_with (first
  |(go_at_call 49;refine(script_is _ _).mono ?_;rintro e w1 ⟨rfl,rfl⟩)
  |(go_at_call 87;refine(script_keyed _ _).mono ?_;rintro e w1 ⟨rfl,rfl⟩)
  |(go_at_call 88;refine(script_iterated _ _).mono ?_;rintro e w1 ⟨rfl,rfl⟩))
 all_goals
  go_ret;refine⟨ret_bool ?_, ?_⟩
  ·first|(simp_all[rightB,iterK];done)|(simp_all[rightB,iterK];omega)
  ·first|rfl|simp[*]
end Go.Proofs.YtfbljmcjadfkoaaGreatDoor

/-! strconv.ParseUint at the bases 10 and 16, words.decimal, words.Number, words.Small by their contracts. -/
namespace Go.Proofs.YtfbljmcjadfkoaaGreatDoor
set_option maxRecDepth 100000
set_option maxHeartbeats 4000000
open Go.RowKit Go.Shelf AmC AmL AmF AmD Go AmS
variable {acc d n : Nat} {T : TypeId} {r : Lib.NumEnd Nat} {c : UInt8}
def p16 (l:List UInt8):Lib.NumEnd Nat:=if l=[]then Lib.NumEnd.syntax else parse16 0 l
def EndIs (T:TypeId)(r:Lib.NumEnd Nat)(e:Ending):Prop:=e= .returned (Lib.uintTuple T r)
end Go.Proofs.YtfbljmcjadfkoaaGreatDoor

/-! strconv.ParseUint, words.decimal, words.Number and words.Small by their contracts. -/
namespace Go.Proofs.YtfbljmcjadfkoaaGreatDoor
set_option maxRecDepth 100000
set_option maxHeartbeats 4000000
open Go.RowKit Go.Shelf AmC AmL AmF AmD Go AmS
def NumPost (E:Nat→Addr)(w:World)(r:Option Nat)(e:Ending)(w':World):Prop:=
 match r with
 |some n=>e= .returned (.tuple #[.int .u64 n,.nilIface])∧Below w.heap.size w w'
 |none=>e= .returned (.tuple #[.int .u64 0,.iface 372 (.pointer (some (E 13)))])∧Below w.heap.size w w'
end Go.Proofs.YtfbljmcjadfkoaaGreatDoor

/-! words.decimal, words.Number and words.Small by their contracts. -/
namespace Go.Proofs.YtfbljmcjadfkoaaGreatDoor
set_option maxRecDepth 100000
set_option maxHeartbeats 4000000
open Go.RowKit Go.Shelf AmC AmL AmF AmD Go AmS
end Go.Proofs.YtfbljmcjadfkoaaGreatDoor

/-! words.Number and words.Small by their contracts. -/
namespace Go.Proofs.YtfbljmcjadfkoaaGreatDoor
set_option maxRecDepth 100000
set_option maxHeartbeats 4000000
open Go.RowKit Go.Shelf AmC AmL AmF AmD Go AmS
variable {l : List UInt8} {E : Nat → Addr} {w w' : World} {n : Nat} {most : Int}
def SmallPost (E:Nat→Addr)(w:World)(r:Option Nat)(most:Int)(e:Ending)(w':World):Prop:=
 match r with
 |some n=>if most<0∨most<n then e= .returned (.tuple #[.int .i64 0,.iface 372 (.pointer (some (E 1)))])∧Below w.heap.size w w' else e= .returned (.tuple #[.int .i64 n,.nilIface])∧Below w.heap.size w w'
 |none=>e= .returned (.tuple #[.int .i64 0,.iface 372 (.pointer (some (E 13)))])∧Below w.heap.size w w'
end Go.Proofs.YtfbljmcjadfkoaaGreatDoor

/-! The plain law of lines and words: byte by byte and line by line they are the same. No program in sight. -/
namespace Go.Proofs.YtfbljmcjadfkoaaGreatDoor.AmW
set_option maxRecDepth 100000
set_option maxHeartbeats 4000000
open Go.RowKit Go.Shelf AmC AmL AmF AmD Go AmS AmW
abbrev Bytes:=List UInt8
def fineC (c:UInt8):Bool:=32≤c && c≤126
def fineB (l:(List UInt8)):Bool:=l.all fineC
def lines:(List UInt8)→List (List UInt8)
 | []=> [[]]
 |b::t=>if b=10 then []::lines t else
  match lines t with
  | []=> [[b]]
  |l::r=>(b::l)::r
def body:(List UInt8)→(List UInt8)
 | []=> []
 |b::t=>if b=35 then []else b::body t
inductive Res where
 |bad (n:Nat)
 |ok (l:List (Nat×List (List UInt8)))
def add (acc:List (Nat×List (List UInt8)))(n:Nat)(row:List (List UInt8)):List (Nat×List (List UInt8)):=
 if row=[]then acc else acc++[(n,row)]
def goSplit (acc:List (Nat×List (List UInt8)))(n:Nat):List (List UInt8)→Res
 | []=> .ok acc
 |l::r=>if fineB (body l)then goSplit (add acc n (Lib.fields (body l))) (n+1) r else .bad n
def flush (row:List (List UInt8))(word:(List UInt8))(c:Bool):List (List UInt8)×(List UInt8):=
 if word≠[]∧c=true then(row++[word],[])else(row,word)
def refGo (acc:List (Nat×List (List UInt8)))(row:List (List UInt8))(word:(List UInt8))(remark:Bool)(n:Nat):(List UInt8)→Res
 | []=> .ok (add acc n (flush row word true).1)
 |b::t=>
  let f:=flush row word (b==10||remark||b==32||b==35)
  if b=10 then refGo (add acc n f.1) [] f.2 false (n+1) t
  else if remark=true∨b=32 then refGo acc f.1 f.2 remark n t
  else if b=35 then refGo acc f.1 f.2 true n t
  else if b<33∨126<b then .bad n
  else refGo acc f.1 (f.2++[b]) remark n t
def rest (acc:List (Nat×List (List UInt8)))(row:List (List UInt8))(word:(List UInt8))(remark:Bool)(n:Nat):List (List UInt8)→Res
 | []=> .ok acc
 |l::r=>
  let m:=if remark then []else body l
  if fineB m then goSplit (add acc n (row++Lib.fieldsGo word m)) (n+1) r else .bad n
def fl (row:List (List UInt8))(word:(List UInt8)):List (List UInt8):=if word=[]then row else row++[word]
end Go.Proofs.YtfbljmcjadfkoaaGreatDoor.AmW

/-! The lines of a text, as strings.Split and strings.Cut give them. No program in sight. -/
namespace Go.Proofs.YtfbljmcjadfkoaaGreatDoor.AmW
set_option maxRecDepth 100000
set_option maxHeartbeats 4000000
open Go.RowKit Go.Shelf AmC AmL AmF AmD Go AmS AmW
end Go.Proofs.YtfbljmcjadfkoaaGreatDoor.AmW

/-! The plain law of remarks: a remark's line, a blank line and a remark behind change no word. No program in sight. -/
namespace Go.Proofs.YtfbljmcjadfkoaaGreatDoor.AmW
set_option maxRecDepth 100000
set_option maxHeartbeats 4000000
open Go.RowKit Go.Shelf AmC AmL AmF AmD Go AmS AmW
def behind (t:(List UInt8)):List (List UInt8)→List (List UInt8)
 | []=> []
 | [l]=> [l++t]
 |l::m::r=>l::behind t (m::r)
def up (p:Nat×List (List UInt8)):Nat×List (List UInt8):=(p.1+2,p.2)
def Res.up:Res→Res
 | .bad n=> .bad (n+2)
 | .ok l=> .ok (l.map AmW.up)
def remarked (r s:(List UInt8)):(List UInt8):=35::(r++([10,32,32,32,10]++(s++(32::35::r))))
end Go.Proofs.YtfbljmcjadfkoaaGreatDoor.AmW

/-! The plain law of lines, joined and split again; and of figures of base 16, read again. No program in sight. -/
namespace Go.Proofs.YtfbljmcjadfkoaaGreatDoor.AmW
set_option maxRecDepth 100000
set_option maxHeartbeats 4000000
open Go.RowKit Go.Shelf AmC AmL AmF AmD Go AmS AmW
variable {c : UInt8} {s : (List UInt8)} {L : List (Nat × List (List UInt8))}
def joined (L:List (Nat×List (List UInt8))):(List UInt8):=(L.map fun p=>Lib.join p.2 [32]++[10]).flatten
def renum:Nat→List (Nat×List (List UInt8))→List (Nat×List (List UInt8))
 |_,[]=> []
 |n,p::r=>(n,p.2)::renum (n+1) r
def goodC (c:UInt8):Prop:=fineC c=true∧c≠32∧c≠35
def goodW (x:(List UInt8)):Prop:=x≠[]∧∀b∈x,goodC b
end Go.Proofs.YtfbljmcjadfkoaaGreatDoor.AmW

/-! The plain law of a text's operations; and of a text behind another one. No program in sight. -/
namespace Go.Proofs.YtfbljmcjadfkoaaGreatDoor.AmS
set_option maxRecDepth 100000
set_option maxHeartbeats 4000000
open Go.RowKit Go.Shelf AmC AmL AmF AmD Go AmS AmW
variable {L : List (Nat × List (List UInt8))} {a : (List UInt8)} {x : List SOp}
def ofGo (acc:List SOp):List (Nat×List (List UInt8))→Except (Nat×Nat) (List SOp)
 | []=> .ok acc
 |p::r=>if 2000≤acc.length then .error (p.1,9)else match one p.2 with
  | .error e=> .error (p.1,e)
  | .ok o=>ofGo (acc++[o]) r
def ofLines (L:List (Nat×List (List UInt8))):Except (Nat×Nat) (List SOp):=
 match ofGo [] L with
 | .error e=> .error e
 | .ok ops=>match other ops with
  |some i=> .error ((L.getD i (0,[])).1,8)
  |none=> .ok ops
def ofText (s:(List UInt8)):Except (Nat×Nat) (List SOp):=
 if 60000<s.length then .error (0,9)else
 match goSplit [] 1 (lines s)with
 | .bad n=> .error (n,3)
 | .ok L=>ofLines L
def moved (k:Nat)(L:List (Nat×List (List UInt8))):List (Nat×List (List UInt8)):=L.map fun p=>(p.1+k,p.2)
def Res.moved (k:Nat)(acc:List (Nat×List (List UInt8))):Res→Res
 | .bad n=> .bad (n+k)
 | .ok L=> .ok (acc++AmS.moved k L)
def ofFree (acc:List SOp):List (Nat×List (List UInt8))→Except (Nat×Nat) (List SOp)
 | []=> .ok acc
 |p::r=>match one p.2 with
  | .error e=> .error (p.1,e)
  | .ok o=>ofFree (acc++[o]) r
def addBefore (acc:List SOp):Except (Nat×Nat) (List SOp)→Except (Nat×Nat) (List SOp)
 | .error e=> .error e
 | .ok y=> .ok (acc++y)
def movedE (k:Nat):Except (Nat×Nat) (List SOp)→Except (Nat×Nat) (List SOp)
 | .error e=> .error (e.1+k,e.2)
 | .ok y=> .ok y
end Go.Proofs.YtfbljmcjadfkoaaGreatDoor.AmS

/-! script.many, script.Word and script.number by their contracts. -/
namespace Go.Proofs.YtfbljmcjadfkoaaGreatDoor
set_option maxRecDepth 100000
set_option maxHeartbeats 4000000
open Go.RowKit Go.Shelf AmC AmL AmF AmD Go AmS AmW
def NumEPost (E:Nat→Addr)(w:World)(r:Except Nat Nat)(e:Ending)(w':World):Prop:=
 match r with
 | .ok n=>e= .returned (.tuple #[.int .u64 n,.nilIface])∧Below w.heap.size w w'
 | .error k=>e= .returned (.tuple #[.int .u64 0,.iface 372 (.pointer (some (E k)))])∧Below w.heap.size w w'
theorem wordOf_at (k:Nat)(h1:1≤k)(h8:k≤8):wordOf (k:Int)=names.getD k []:=by
 unfold wordOf
 have:isKind (k:Int)=true:=by unfold isKind;simp;omega
 rw[this];simp
theorem wordOf_none {k:Int}(h:isKind k=false):wordOf k=[]:=by unfold wordOf;rw[h];rfl
end Go.Proofs.YtfbljmcjadfkoaaGreatDoor
