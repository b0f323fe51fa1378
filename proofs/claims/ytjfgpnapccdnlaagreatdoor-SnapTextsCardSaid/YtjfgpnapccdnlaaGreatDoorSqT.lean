/- Figures of base 16, and of base 10, and what they are read as. No program in sight. -/
import Derived.Test.YtjfgpnapccdnlaaGreatDoorDecP
import Derived.Lib.ItoaNum
import Derived.Test.YtjfgpnapccdnlaaGreatDoorBuilder
import Derived.WalkKit
import Derived.WalkSpells
import Derived.WalkLawsBesides
import Derived.Laws.IdiomStrings
import Derived.Outline
import Derived.OrdersHeld
import Derived.Lib.Hide
import Derived.RowKit
namespace Go.Proofs.YtjfgpnapccdnlaaGreatDoor
section
open Go yS
def jo (d:Nat):UInt8:=UInt8.ofNat (if d<10 then 48+d else 87+d)
def jM:Nat→Nat→List UInt8
 |0,n=> [jo n]
 |f+1,n=>if n<16 then [jo n]else jM f (n/16)++[jo (n % 16)]
def d9 (n:Nat):List UInt8:=jM 16 n
theorem E9:∀(f n:Nat),(jM f n).length≤f+1
 |0,_=>Nat.le_refl _
 |f+1,n=>by
  rw[jM];split
  ·simp
  ·have:=E9 f (n/16);simp;omega
theorem j5 (n:Nat):(d9 n).length≤17:=E9 16 n
theorem NK (f n:Nat)(h:16≤n):jM (f+1) n=jM f (n/16)++[jo (n % 16)]:=by rw[jM,if_neg (by omega)]
theorem H7 (f n:Nat)(h:n<16):jM f n=[jo n]:=by
 cases f with
 |zero=>rfl
 |succ f=>rw[jM,if_pos h]
theorem Gg (d:Nat)(h:d<16):eH (jo d)=true∧kC (jo d)=d:=by
 exact match d,h with
 |0,_=>⟨rfl,rfl⟩|1,_=>⟨rfl,rfl⟩|2,_=>⟨rfl,rfl⟩|3,_=>⟨rfl,rfl⟩|4,_=>⟨rfl,rfl⟩|5,_=>⟨rfl,rfl⟩|6,_=>⟨rfl,rfl⟩|7,_=>⟨rfl,rfl⟩
 |8,_=>⟨rfl,rfl⟩|9,_=>⟨rfl,rfl⟩|10,_=>⟨rfl,rfl⟩|11,_=>⟨rfl,rfl⟩|12,_=>⟨rfl,rfl⟩|13,_=>⟨rfl,rfl⟩|14,_=>⟨rfl,rfl⟩|15,_=>⟨rfl,rfl⟩
 |k+16,hk=>absurd hk (by omega)
theorem KA:∀(f n:Nat),n<16^(f+1)→(∀b∈jM f n,eH b=true)∧nX 0 (jM f n)=n∧jM f n≠[]∧(jM f n).length≤f+1
 |0,n,h=>by
  have:=Gg n (by simpa using h);refine⟨fun b hb=> ?_, ?_,by simp[jM],by simp[jM]⟩
  ·obtain rfl:b=jo n:=by simpa[jM]using hb
   exact this.1
  ·rw[jM,mX,qQ,this.2];omega
 |f+1,n,h=>by
  by_cases h16:n<16
  ·have:=Gg n h16;rw[jM,if_pos h16];refine⟨fun b hb=> ?_, ?_,by simp,by simp⟩
   ·obtain rfl:b=jo n:=by simpa using hb
    exact this.1
   ·rw[mX,qQ,this.2];omega
  ·have hm:=Gg (n % 16) (Nat.mod_lt _ (by omega));obtain⟨i1,i2,i3,i4⟩:=KA f (n/16) (by rw[Nat.pow_succ]at h;exact Nat.div_lt_of_lt_mul (by rw[Nat.mul_comm];exact h));rw[jM,if_neg h16];refine⟨fun b hb=> ?_, ?_,by simp,by simp;omega⟩
   ·rcases List.mem_append.1 hb with hb|hb
    ·exact i1 b hb
    ·obtain rfl:b=jo (n % 16):=by simpa using hb
     exact hm.1
   ·rw[CS,i2,mX,qQ,hm.2];omega
theorem NM:∀(f n k:Nat),n<16^(k+1)→(jM f n).length≤k+1
 |0,n,k,_=>by simp[jM]
 |f+1,n,k,h=>by
  by_cases h16:n<16
  ·rw[jM,if_pos h16];simp
  ·obtain⟨j,rfl⟩:∃j,k=j+1:=by
    cases k with
    |zero=>simp at h;omega
    |succ j=>exact⟨j,rfl⟩
   rw[jM,if_neg h16];have:=NM f (n/16) j (by rw[Nat.pow_succ]at h;exact Nat.div_lt_of_lt_mul (by rw[Nat.mul_comm];exact h));simp;omega
theorem YC (n:Nat)(hn:n<18446744073709551616):hex (d9 n)=some n:=by
 have hp:(16:Nat)^(15+1)=18446744073709551616:=by decide
 obtain⟨h1,h2,h3,_⟩:=KA 16 n (by rw[Nat.pow_succ,hp];omega);have h4:=NM 16 n 15 (by rw[hp];exact hn);unfold d9 hex;rw[if_pos ⟨h3,h1,h4⟩,h2]
theorem Tt (n:Nat)(hn:n<18446744073709551616):numOf (48::120::d9 n)=some n:=by
 have:numOf (48::120::d9 n)=hex (d9 n):=by simp[numOf,Lib.hasPrefix,Lib.trimPrefix,List.isPrefixOf]
 rw[this,YC n hn]
end
section
open Go.RowKit
variable {w wr : World} {i n u : Nat} {done : List UInt8} {cs : Array Value}
theorem VG (m:Nat)(h:m<16)(h':m<(⟨#[48,49,50,51,52,53,54,55,56,57,97,98,99,100,101,102,103,104,105,106,107,108,109,110,111,112,113,114,115,116,117,118,119,120,121,122]⟩:ByteArray).size):((⟨#[48,49,50,51,52,53,54,55,56,57,97,98,99,100,101,102,103,104,105,106,107,108,109,110,111,112,113,114,115,116,117,118,119,120,121,122]⟩:ByteArray)[m]'h').toNat=(jo m).toNat:=by
 exact match m,h,h' with
 |0,_,_=>rfl
 |1,_,_=>rfl
 |2,_,_=>rfl
 |3,_,_=>rfl
 |4,_,_=>rfl
 |5,_,_=>rfl
 |6,_,_=>rfl
 |7,_,_=>rfl
 |8,_,_=>rfl
 |9,_,_=>rfl
 |10,_,_=>rfl
 |11,_,_=>rfl
 |12,_,_=>rfl
 |13,_,_=>rfl
 |14,_,_=>rfl
 |15,_,_=>rfl
 |k+16,hk,_=>absurd hk (by omega)
structure pG (w wr:World)(n u:Nat)(done:List UInt8)(cs:Array Value):Prop where
 len:done.length≤15
 lt:u<16^(16-done.length)
 eq:jM (16-done.length) u++done=d9 n
 blk:aj wr w.heap.size 303 cs
 size:cs.size=65
 cells:cs.toList.drop (65-done.length)=done.map (fun b=>Value.int .u8 (b.toNat:Int))
 below:Below w.heap.size w wr
theorem pG.cell (h:pG w wr n u done cs)(hi:i<65):∃v,wr.cell? ⟨w.heap.size,i,none⟩=some v:=by
 rw[h.blk.cell];exact⟨cs[i]'(by rw[h.size];exact hi),Array.getElem?_eq_getElem _⟩
theorem pG.lay (h:pG w wr n u done cs)(hi:65-done.length=i+1)(b:UInt8):
  aj (wr.setCell ⟨w.heap.size,i,none⟩ (.int .u8 (b.toNat:Int))) w.heap.size 303 (cs.setIfInBounds i (.int .u8 (b.toNat:Int)))∧
  (cs.setIfInBounds i (.int .u8 (b.toNat:Int))).toList.drop i=(b::done).map (fun b=>Value.int .u8 (b.toNat:Int))∧Below w.heap.size w (wr.setCell ⟨w.heap.size,i,none⟩ (.int .u8 (b.toNat:Int))):=by
 have hsz:=h.size;have hl:=h.len;refine⟨h.blk.ak i _, ?_,h.below.setCell (p:=⟨w.heap.size,i,none⟩) (Nat.le_refl _) _⟩
 have hil:i<cs.toList.length:=by simp;omega
 rw[Array.toList_setIfInBounds,List.drop_eq_getElem_cons (by simpa using hil)];rw[List.getElem_set_self,List.map_cons];congr 1;rw[List.drop_set_of_lt (by omega),←hi];exact h.cells
theorem pG.next (h:pG w wr n u done cs)(hu:16≤u)(hi:65-done.length=i+1):
  pG w (wr.setCell ⟨w.heap.size,i,none⟩ (.int .u8 ((jo (u % 16)).toNat:Int))) n (u/16) (jo (u % 16)::done) (cs.setIfInBounds i (.int .u8 ((jo (u % 16)).toNat:Int))):=by
 obtain⟨h1,h2,h3⟩:=h.lay hi (jo (u % 16))
 have hl:done.length<15:=by
  rcases Nat.lt_or_ge done.length 15 with q|q
  ·exact q
  ·have e:16-done.length=1:=by have:=h.len;omega
   have:=h.lt;rw[e]at this;omega
 obtain⟨f,hf⟩:∃f,16-done.length=f+1:=⟨15-done.length,by omega⟩
 have hf':16-(jo (u % 16)::done).length=f:=by rw[List.length_cons];omega
 refine⟨by rw[List.length_cons];omega, ?_, ?_,h1,by simpa using h.size, ?_,h3⟩
 ·rw[hf'];have:=h.lt;rw[hf,Nat.pow_succ]at this;exact Nat.div_lt_of_lt_mul (by rw[Nat.mul_comm];exact this)
 ·rw[hf',←h.eq,hf,NK f u hu];simp
 ·have e:65-(jo (u % 16)::done).length=i:=by rw[List.length_cons];omega
  rw[e];exact h2
theorem pG.last (h:pG w wr n u done cs)(hu:u<16)(hi:65-done.length=i+1):
  d9 n=jo u::done∧(d9 n).length=65-i∧(∀j (hj:j<(d9 n).length),(wr.setCell ⟨w.heap.size,i,none⟩ (.int .u8 ((jo u).toNat:Int))).cell? ((⟨w.heap.size,i,none⟩:Addr).add j)=some (.int .u8 ((d9 n)[j].toNat:Int)))∧
  Below w.heap.size w (wr.setCell ⟨w.heap.size,i,none⟩ (.int .u8 ((jo u).toNat:Int))):=by
 obtain⟨h1,h2,h3⟩:=h.lay hi (jo u)
 have e:d9 n=jo u::done:=by rw[←h.eq,H7 _ _ hu];rfl
 have hl:=h.len;refine⟨e,by rw[e,List.length_cons];omega,fun j hj=> ?_,h3⟩
 have hadd:(⟨w.heap.size,i,none⟩:Addr).add j=⟨w.heap.size,i+j,none⟩:=by unfold Addr.add;split<;>simp_all
 rw[hadd,h1.cell]
 have h4:((cs.setIfInBounds i (.int .u8 ((jo u).toNat:Int))).toList.drop i)[j]?=some (.int .u8 ((d9 n)[j].toNat:Int)):=by
  rw[h2];simp only[←e,List.getElem?_map];rw[List.getElem?_eq_getElem hj];rfl
 rw[List.getElem?_drop]at h4;rw[←Array.getElem?_toList];exact h4
theorem pG.start (w:World)(n:Nat)(hn:n<18446744073709551616)(cs:Array Value)(hc:cs.size=65):pG w (w.alloc (.cells cs 303)) n n [] cs:=
 ⟨by simp,by simpa using hn,by simp[d9],aj.new _ _ _,hc,by rw[List.drop_eq_nil_of_le (by simp[hc])];rfl,(Below.refl _ _).alloc (Nat.le_refl _) _⟩
set_option maxHeartbeats 400000 in
set_option maxRecDepth 100000 in
theorem aeO (w:World)(hT:w.cell? ⟨21,15,none⟩=some (.int .u8 4)):
  Calls Tryz.prog 183 #[.int .u64 16] w fun e w'=>e= .returned (.int .i64 4)∧w=w':=by
 have hT':w.cell? ⟨21,(IntKind.u64.wrap (bits BinOp.and IntKind.u64 16 (IntKind.u64.wrap (-16))*285870213051353865)/288230376151711744).toNat,none⟩=some (.int .u8 4):=by
  have:(IntKind.u64.wrap (bits BinOp.and IntKind.u64 16 (IntKind.u64.wrap (-16))*285870213051353865)/288230376151711744).toNat=15:=by decide
  rw[this];exact hT
 clear hT;go_in;go_wp2;go_ret;exact⟨rfl,rfl⟩
theorem abI (W:World)(b i:Nat)(h:i≤64):(Instr.sliceAt 303 (.pointer (some ⟨b,0,none⟩)) (some (.int .i64 (i:Int))) none none).run Tryz.prog W= .ok (.slice (some ⟨b,i,none⟩) (65-i) (65-i)) W:=by
 have ha:Tryz.prog.arrayLen 303 =65:=by kernel_rfl
 have hu:Tryz.prog.underlying 303 =some (.array (Tryz.prog.arrayLen 303) (Tryz.prog.elem 303)):=by kernel_rfl
 have hs:∀w,(sizeOf (Tryz.prog.elem 303)).run Tryz.prog w= .ok 1 w:=fun w=>by kernel_rfl
 rw[run_sliceAt_array_l W 303 ⟨b,0,none⟩ hu .i64 i (by omega) (by rw[ha];omega),hs];simp only[Result.andThen_ok,slicedAt,ha,Int.toNat_natCast];rw[if_neg (by omega)];by_cases h0:i=0
 ·subst h0;rfl
 ·simp[Addr.add,h0]
set_option maxHeartbeats 1000000 in
set_option maxRecDepth 100000 in
theorem NN (n:Nat)(hn:n<18446744073709551616)(w:World)(hT:w.cell? ⟨21,15,none⟩=some (.int .u8 4)):
  Calls Tryz.prog 120 #[.slice none 0 0,.int .u64 n,.int .i64 16,.bool false,.bool false] w fun e w'=>∃v,e= .returned (.tuple #[v,dN (d9 n)])∧Below w.heap.size w w':=by
 have hT1:∀o,(w.alloc o).cell? ⟨21,15,none⟩=some (.int .u8 4):=fun o=>(World.cell?_alloc_lt w o _ (World.block_lt_of_cell? w _ hT)).trans hT;have HT1:=qd hT1;clear hT1
 have hp2:(bits BinOp.and IntKind.i64 16 15==0)=true:=by decide
 go_in;go_wp2_with (first|(go_at_call 183;refine(aeO _ (HT1.out _)).mono ?_;rintro e w' ⟨rfl,rfl⟩)|go_in);go_loopw [1,13] (fun vu vi wr=>∃(u:Nat) (done:List UInt8) (cs:Array Value),vu= .int .u64 u∧vi= .int .i64 ((65-done.length:Nat):Int)∧pG w wr n u done cs) (fun vu _ _=>(intOf vu).toNat)
 case atStart=>exact⟨n,[],_,rfl,rfl,pG.start w n hn _ (by kernel_rfl)⟩
 case round=>
  obtain⟨u,done,cs,rfl,rfl,h⟩:=hrel
  have hu64:u<18446744073709551616:=by
   have h1:=h.lt;have h2:16^(16-done.length)≤16^16:=Nat.pow_le_pow_right (by omega) (by omega)
   have h3:(16:Nat)^16=18446744073709551616:=by decide
   omega
  have hdl:=h.len;obtain⟨i,hi⟩:∃i,65-done.length=i+1:=⟨64-done.length,by omega⟩
  have hil:i≤64:=by omega
  have Hi:=qd hi;have hf:=h.blk.frozen i;obtain⟨v0,hc⟩:=h.cell (i:=i) (by omega);rw[hi];clear hi;by_cases h16:16≤u
  ·have hand:bits BinOp.and IntKind.u64 (u:Int) 15=((u % 16:Nat):Int):=by
    have:=u64_and_nat u 15 hu64 (by omega);rw[show(15:Nat)=2^4-1 from rfl,Nat.and_two_pow_sub_one_eq_mod]at this;exact this
   have hm:u % 16<16:=Nat.mod_lt _ (by omega);have htab:=VG (u % 16) hm (by show u % 16<36;omega);have hN:=h.next h16 Hi.out;clear h;go_wp2;go_roundw
   case rel=>exact⟨u/16,_,_,rfl,by rw[List.length_cons];have:=Hi.out;rw[show 65-(done.length+1)=i by omega],hN⟩
   case measure=>simp[intOf];omega
  ·have htab:=VG u (by omega) (by show u<36;omega);obtain⟨e1,e2,e3,e4⟩:=h.last (by omega) Hi.out;have Tv:=run_convert_bytes_back (P:=Tryz.prog) (wr.setCell ⟨w.heap.size,i,none⟩ (.int .u8 ((jo u).toNat:Int))) 51 9 5 ⟨w.heap.size,i,none⟩ (65-i) (d9 n) Tryz.underlying51 Tryz.underlying5 Tryz.underlying9 e3;rw[e2]at Tv;have hsl:∀W,(Instr.sliceAt 303 (.pointer (some ⟨w.heap.size,0,none⟩)) (some (.int .i64 (i:Int))) none none).run Tryz.prog W= .ok (.slice (some ⟨w.heap.size,i,none⟩) (65-i) (65-i)) W:=fun W=>abI W w.heap.size i hil;have E1:=qd e1;clear h e1 e2 e3;go_wp2;go_ret2
   first|exact⟨_,rfl,e4⟩|exact⟨⟨_,rfl⟩,e4⟩
set_option maxHeartbeats 400000 in
theorem NP (n:Nat)(hn:n<18446744073709551616)(w:World)(hT:w.cell? ⟨21,15,none⟩=some (.int .u8 4)):
  Calls Tryz.prog 43 #[.int .u64 n,.int .i64 16] w fun e w'=>e= .returned (dN (d9 n))∧Below w.heap.size w w':=by
 have HF:=qd (NN n hn w hT);go_in;go_wp2_with (first|(go_at_call 120;refine HF.out.mono ?_;rintro e w' ⟨v,rfl,hb⟩)|go_in);go_ret;exact⟨rfl,hb⟩
set_option maxHeartbeats 400000 in
theorem KC (n:Nat)(hn:n<18446744073709551616)(w:World)(hT:w.cell? ⟨21,15,none⟩=some (.int .u8 4)):
  Calls Tryz.prog 17 #[.int .u64 n] w fun e w'=>e= .returned (dN (48::120::d9 n))∧Below w.heap.size w w':=by
 have HF:=qd (NP n hn w hT);unfold dN at HF;have hlen:=j5 n;go_in;go_wp2_with (first|(go_at_call 43;refine HF.out.mono ?_;rintro e w' ⟨rfl,hb⟩));go_ret;refine⟨ret_val ?_,hb⟩;unfold dN;congr 1
end
section
open Go
variable {f i : Nat} {listed : Array Bool} {a : Act} {w : World} {oi oj : Oper} {v : Value}
section
variable {P : Program} {ops : Array Oper} {Q : Exit → Act → World → Prop} {md : Region.Mode} {S : World → Prop} {n : List Nat}
def Early (n:List Nat)(listed:Array Bool):Prop:=∀k,k∈n→listed.getD k true=false
theorem qR (hi:i∉n):Early n (listed.setIfInBounds i true)↔Early n listed:=by
 have H:∀k,k∈n→((listed.setIfInBounds i true).getD k true=false↔listed.getD k true=false):=fun k hk=>by
  have hne:i≠k:=fun h=>hi (h▸hk);rw[getD_set_ne true hne]
 exact⟨fun h k hk=>(H k hk).1 (h k hk),fun h k hk=>(H k hk).2 (h k hk)⟩
def bN (P:Program)(md:Region.Mode)(ops:Array Oper)(Q:Exit→Act→World→Prop)(S:World→Prop)(n:List Nat):Nat→Array Bool→Act→World→Prop
 |0,listed,a,w=>Region.ready md ops listed=[]∧Q .normal a w
 |f+1,listed,a,w=>
  (Region.ready md ops listed=[]→Q .normal a w)∧
  ∀i∈Region.ready md ops listed,wpOp P ops Q i (fun a' w'=>(Early n (listed.setIfInBounds i true)→S w')∧bN P md ops Q S n f (listed.setIfInBounds i true) a' w') a w
theorem Bc:∀(f:Nat) (listed:Array Bool) (a:Act) (w:World),bN P md ops Q S n f listed a w→wpAny P md ops Q f listed a w
 |0,_,_,_,h=>h
 |f+1,_,_,_,h=>⟨h.1,fun i hi=>wpOp_mono (fun a' w' h'=>Bc f _ a' w' h'.2) (h.2 i hi)⟩
theorem YD {id:Nat}(S:World→Prop)(n:List Nat)(hm:P.follows .mixedOrders=true)(h:bN P .any ops Q S n ops.size (Array.replicate ops.size false) a {w with drawn:=w.drawn+1}):(Code.region id ops true).wp P Q a w:=
 wp_region_any hm (Bc _ _ _ _ h)
def After (md:Region.Mode)(oj:Oper)(i:Nat):Prop:=∃e∈oj.after,Region.binds md e=true∧e.on=i
def JH (md:Region.Mode)(ops:Array Oper)(n:List Nat)(i:Nat)(listed:Array Bool):Prop:=
 ∀j oj,ops[j]?=some oj→j∈n→listed.getD j true=false→After md oj i∨∃k ok,ops[k]?=some ok∧listed.getD k true=false∧After md oj k∧After md ok i
def H8 (md:Region.Mode)(oj:Oper)(i:Nat):Bool:=oj.after.any fun e=>Region.binds md e && e.on==i
theorem Gh (h:H8 md oj i=true):After md oj i:=by
 obtain⟨e,he,hb⟩:=Array.any_eq_true'.1 h;simp only[Bool.and_eq_true,beq_iff_eq]at hb;exact⟨e,he,hb.1,hb.2⟩
def xL (md:Region.Mode)(ops:Array Oper)(n:List Nat)(i:Nat)(listed:Array Bool):Bool:=
 (n.all fun k=> !listed.getD k true) && (List.range ops.size).all fun j=> !n.contains j||(match ops[j]? with
  |some oj=>H8 md oj i||(List.range ops.size).any fun k=> !listed.getD k true && H8 md oj k && (match ops[k]? with
   |some ok=>H8 md ok i
   |none=>false)
  |none=>true)
theorem H9 (h:xL md ops n i listed=true):Early n listed∧JH md ops n i listed:=by
 unfold xL at h;rw[Bool.and_eq_true]at h;refine⟨fun k hk=>by simpa using List.all_eq_true.1 h.1 k hk,fun j oj hj hn hl=> ?_⟩;have hlt:j<ops.size:=(Array.getElem?_eq_some_iff.1 hj).1;have h1:=List.all_eq_true.1 h.2 j (List.mem_range.2 hlt);rw[hj,show n.contains j=true by simpa using hn]at h1;simp only[Bool.not_true,Bool.false_or,Bool.or_eq_true]at h1;rcases h1 with h1|h1
 ·exact .inl (Gh h1)
 ·obtain⟨k,_,h2⟩:=List.any_eq_true.1 h1;simp only[Bool.and_eq_true,Bool.not_eq_true']at h2;obtain⟨⟨h3,h4⟩,h5⟩:=h2
  cases hk:ops[k]? with
  |none=>rw[hk]at h5;cases h5
  |some ok=>rw[hk]at h5;exact .inr ⟨k,ok,hk,h3,Gh h4,Gh h5⟩
theorem YE {k:Nat}(h1:listed.getD k false=true)(h0:listed.getD k true=false):False:=by
 rcases Nat.lt_or_ge k listed.size with h'|h'
 ·simp[h']at h0 h1;rw[h0]at h1;cases h1
 ·simp[Array.getElem?_eq_none h']at h1
theorem KD {j:Nat}(hr:i∈Region.ready md ops listed)(hall:∀e∈oj.after,Region.binds md e=true→listed.getD e.on false=true):∀e∈oj.after,Region.binds md e=true→e.on≠i:=fun e he hb heq=>by
 have _:=j;have h1:=hall e he hb;have h0:=(mem_ready.1 hr).1;rw[heq]at h1;rcases Nat.lt_or_ge i listed.size with h'|h'
 ·simp[h']at h0 h1;rw[h0]at h1;cases h1
 ·simp[Array.getElem?_eq_none h']at h1
theorem QM (hi:ops[i]?=some oi)(hin:i∉n)(hsel:∀(j:Nat) (o:Oper) cs b,ops[j]?=some o→o.op≠ .select cs b)(hQ:∀c a w,Q (.panic c) (a.put oi.dst v) w→Q (.panic c) a w):
  ∀(f:Nat) (listed:Array Bool) (a:Act) (w:World),
   (∀j oj,ops[j]?=some oj→j≠i→listed.getD j true=false→(∀e∈oj.after,Region.binds md e=true→e.on≠i)→oi.apart ops oj=true)→
   Early n listed→JH md ops n i listed→i∈Region.ready md ops listed→YieldsIf P ops S oi v a→S w→
   bN P md ops Q S n f (listed.setIfInBounds i true) (a.put oi.dst v) w→bN P md ops Q S n (f+1) listed a w:=by
 intro f
 induction f with
 |zero=>
  intro listed a w _ _ _ hr hy hS H;refine⟨(fun h=>by rw[h]at hr;cases hr),fun j hj=> ?_⟩;by_cases hji:j=i
  ·subst hji;exact hy.wpOp hi hS ⟨fun _=>hS,H⟩
  ·have:=ready_mono hj hji;rw[H.1]at this;cases this
 |succ f ih=>
  intro listed a w hfree hE hA hr hy hS H;refine⟨(fun h=>by rw[h]at hr;cases hr),fun j hj=> ?_⟩;by_cases hji:j=i
  ·subst hji;exact hy.wpOp hi hS ⟨fun _=>hS,H⟩
  ·have h1:=H.2 j (ready_mono hj hji);obtain⟨hjun,oj,hoj,hall⟩:=mem_ready.1 hj;have hnot:=KD (j:=j) hr hall
   have hjn:j∉n:=fun h=>by
    rcases hA j oj hoj h hjun with⟨e,he,hb,heq⟩|⟨k,ok,_,hkl,⟨e,he,hb,heq⟩,_⟩
    ·exact absurd heq (hnot e he hb)
    ·exact YE (heq▸hall e he hb) hkl
   have hEj:Early n (listed.setIfInBounds j true):=(qR hjn).2 hE;have acV:Early n ((listed.setIfInBounds i true).setIfInBounds j true):=(qR hjn).2 ((qR hin).2 hE);have h2:=wpOp_putIf hoj (hfree j oj hoj hji hjun hnot) (fun cs b=>hsel i oi cs b hi) (fun cs b=>hsel j oj cs b hoj) hQ hy h1
   have hfree':∀k ok,ops[k]?=some ok→k≠i→(listed.setIfInBounds j true).getD k true=false→
     (∀e∈ok.after,Region.binds md e=true→e.on≠i)→oi.apart ops ok=true:=fun k ok hk hki hun hno=>by
    refine hfree k ok hk hki ?_ hno;by_cases hjk:j=k
    ·subst hjk;exact hjun
    ·rw[getD_set_ne true hjk]at hun;exact hun
   have hA':JH md ops n i (listed.setIfInBounds j true):=fun k ok hk hkn hun=>by
    have hun':listed.getD k true=false:=by
     by_cases hjk:j=k
     ·subst hjk;exact hjun
     ·rw[getD_set_ne true hjk]at hun;exact hun
    rcases hA k ok hk hkn hun' with h|⟨k2,VH,h3,h4,h5,h6⟩
    ·exact .inl h
    ·refine .inr ⟨k2,VH,h3, ?_,h5,h6⟩
     have hne:j≠k2:=by
      rintro rfl;obtain rfl:VH=oj:=Option.some.inj (h3.symm.trans hoj);obtain⟨e,he,hb,heq⟩:=h6;exact hnot e he hb heq
     rw[getD_set_ne true hne];exact h4
   refine wpOp_mono (fun a' w' h3=>⟨fun _=>h3.2.1 acV,ih (listed.setIfInBounds j true) a' w' hfree' hEj hA' (ready_mono hr (Ne.symm hji)) h3.1 (h3.2.1 acV) ?_⟩) h2;rw[Array.setIfInBounds_comm _ _ hji];exact h3.2.2
theorem Fa (hi:ops[i]?=some oi)(hin:i∉n)(hsel:∀(j:Nat) (o:Oper) cs b,ops[j]?=some o→o.op≠ .select cs b)(hQ:∀c a w,Q (.panic c) (a.put oi.dst v) w→Q (.panic c) a w):
  ∀(f:Nat) (listed:Array Bool) (a:Act) (w:World),
   (∀j oj,ops[j]?=some oj→j≠i→listed.getD j true=false→(∀e∈oj.after,Region.binds md e=true→e.on≠i)→oi.apart ops oj=true)→
   i∈Region.ready md ops listed→YieldsIf P ops (fun _=>True) oi v a→(Early n listed→S w)→
   bN P md ops Q S n f (listed.setIfInBounds i true) (a.put oi.dst v) w→bN P md ops Q S n (f+1) listed a w:=by
 intro f
 induction f with
 |zero=>
  intro listed a w _ hr hy hS H;refine⟨(fun h=>by rw[h]at hr;cases hr),fun j hj=> ?_⟩;by_cases hji:j=i
  ·subst hji;exact hy.wpOp hi trivial ⟨fun h=>hS ((qR hin).1 h),H⟩
  ·have:=ready_mono hj hji;rw[H.1]at this;cases this
 |succ f ih=>
  intro listed a w hfree hr hy hS H;refine⟨(fun h=>by rw[h]at hr;cases hr),fun j hj=> ?_⟩;by_cases hji:j=i
  ·subst hji;exact hy.wpOp hi trivial ⟨fun h=>hS ((qR hin).1 h),H⟩
  ·have h1:=H.2 j (ready_mono hj hji);obtain⟨hjun,oj,hoj,hall⟩:=mem_ready.1 hj;have hnot:=KD (j:=j) hr hall;have h2:=wpOp_putIf hoj (hfree j oj hoj hji hjun hnot) (fun cs b=>hsel i oi cs b hi) (fun cs b=>hsel j oj cs b hoj) hQ hy h1
   have hfree':∀k ok,ops[k]?=some ok→k≠i→(listed.setIfInBounds j true).getD k true=false→
     (∀e∈ok.after,Region.binds md e=true→e.on≠i)→oi.apart ops ok=true:=fun k ok hk hki hun hno=>by
    refine hfree k ok hk hki ?_ hno;by_cases hjk:j=k
    ·subst hjk;exact hjun
    ·rw[getD_set_ne true hjk]at hun;exact hun
   have hEq:Early n (listed.setIfInBounds j true)→Early n ((listed.setIfInBounds i true).setIfInBounds j true):=fun h=>by
    rw[Array.setIfInBounds_comm _ _ (Ne.symm hji)];exact(qR hin).2 h
   refine wpOp_mono (fun a' w' h3=>⟨fun h=>h3.2.1 (hEq h),ih (listed.setIfInBounds j true) a' w' hfree' (ready_mono hr (Ne.symm hji)) h3.1 (fun h=>h3.2.1 (hEq h)) ?_⟩) h2;rw[Array.setIfInBounds_comm _ _ hji];exact h3.2.2
theorem abe (hi:ops[i]?=some oi)(hs:Region.noSelect ops=true)(hf:Region.free md ops listed i=true)(hr:(Region.ready md ops listed).contains i=true)(hin:n.contains i=false)(hA:xL md ops n i listed=true)(hQ:∀c a w,Q (.panic c) (a.put oi.dst v) w→Q (.panic c) a w)(hy:YieldsIf P ops S oi v a)(hS:S w)(h:bN P md ops Q S n f (listed.setIfInBounds i true) (a.put oi.dst v) w):bN P md ops Q S n (f+1) listed a w:=
 QM hi (by simpa using hin) (Region.noSelect_spec hs) hQ f listed a w (Region.free_spec hi hf) (H9 hA).1 (H9 hA).2 (by simpa using hr) hy hS h
theorem Tw (hi:ops[i]?=some oi)(hs:Region.noSelect ops=true)(hf:Region.free md ops listed i=true)(hr:(Region.ready md ops listed).contains i=true)(hin:n.contains i=false)(hQ:∀c a w,Q (.panic c) (a.put oi.dst v) w→Q (.panic c) a w)(hy:YieldsIf P ops (fun _=>True) oi v a)(hS:S w)(h:bN P md ops Q S n f (listed.setIfInBounds i true) (a.put oi.dst v) w):bN P md ops Q S n (f+1) listed a w:=
 Fa hi (by simpa using hin) (Region.noSelect_spec hs) hQ f listed a w (Region.free_spec hi hf) (by simpa using hr) hy (fun _=>hS) h
theorem aen (hi:ops[i]?=some oi)(hs:Region.noSelect ops=true)(hf:Region.free md ops listed i=true)(hr:(Region.ready md ops listed).contains i=true)(hin:n.contains i=false)(hQ:∀c a w,Q (.panic c) (a.put oi.dst v) w→Q (.panic c) a w)(hy:YieldsIf P ops (fun _=>True) oi v a)(hl:(n.any fun k=>listed.getD k true)=true)(h:bN P md ops Q S n f (listed.setIfInBounds i true) (a.put oi.dst v) w):bN P md ops Q S n (f+1) listed a w:=
 Fa hi (by simpa using hin) (Region.noSelect_spec hs) hQ f listed a w (Region.free_spec hi hf) (by simpa using hr) hy (fun hE=>by
  obtain⟨k,hk,h1⟩:=List.any_eq_true.1 hl
  rw[hE k hk]at h1;cases h1) h
theorem aeo {o:Oper}(hi:ops[i]?=some o)(hr:Region.ready md ops listed=[i])(h:∀K:Act→World→Prop,RowKit.Hid (∀a' w',(i∉n→S w')→bN P md ops Q S n f (listed.setIfInBounds i true) a' w'→K a' w')→if Region.wanted o (yielded ops a.tmps)=true then o.wp P a w K Q else K (a.put o.dst undef) w):bN P md ops Q S n (f+1) listed a w:=by
 refine⟨(fun h0=>by rw[hr]at h0;cases h0),fun j hj=> ?_⟩;rw[hr]at hj
 obtain rfl:j=i:=by simpa using hj
 have hun:listed.getD j true=false:=(mem_ready.1 (by rw[hr];simp:j∈Region.ready md ops listed)).1;unfold wpOp;simp only[hi]
 have:=h (fun a' w'=>(Early n (listed.setIfInBounds j true)→S w')∧bN P md ops Q S n f (listed.setIfInBounds j true) a' w') (qd fun a' w' h1 h2=>⟨fun hE=>by
  by_cases hjn:j∈n
  ·have h3:=hE j hjn
   have hlt:j<listed.size:=by
    rcases Nat.lt_or_ge j listed.size with h'|h'
    ·exact h'
    ·simp[Array.getElem?_eq_none h']at hun
   simp[hlt]at h3
  ·exact h1 hjn,h2⟩)
 split
 ·next hw=>rw[if_pos hw]at this;exact .inl this
 ·next hw=>rw[if_neg hw]at this;exact this
theorem aX (hr:Region.ready md ops listed=[])(h:Q .normal a w):∀f,bN P md ops Q S n f listed a w
 |0=>⟨hr,h⟩
 |_+1=>⟨fun _=>h,by rw[hr];simp⟩
end
end
section
open Go
section
variable {P : Program} {ops : Array Oper} {Q : Exit → Act → World → Prop} {md : Region.Mode} {S : World → Prop} {n : List Nat} {f : Nat} {listed : Array Bool} {a : Act} {w : World} {o1 : Op} {o2 : TypeId} {o3 : String} {o4 : Array Edge} {o5 : Option (Nat × Bool)}
theorem tW (i:Nat)(s:Option Tmp)(v:Value)(hi:ops[i]?=some ⟨s,o1,o2,o3,o4,o5⟩)(hS:S w)(h:bN P md ops Q S n f (listed.setIfInBounds i true) (a.put s v) w)(h1:Region.noSelect ops=true:=by kernel_rfl)(h2:Region.free md ops listed i=true:=by kernel_rfl)(h3:(Region.ready md ops listed).contains i=true:=by kernel_rfl)(h4:n.contains i=false:=by rfl)(h5:Region.wanted ⟨s,o1,o2,o3,o4,o5⟩ (yielded ops a.tmps)=true:=by rfl)(h7:∀w,True→(execOp a.eval ⟨s,o1,o2,o3,o4,o5⟩).run P w= .ok (.value v) w:=by rintro w-;go_simp)(h6:∀c b u,Q (.panic c) (b.put s v) u→Q (.panic c) b u:=by exact fun _ _ _ h=>h):bN P md ops Q S n (f+1) listed a w:=
  Tw hi h1 h2 h3 h4 h6 (Or.inl ⟨h5,h7⟩) hS h
theorem tT (i:Nat)(s:Option Tmp)(v:Value)(hi:ops[i]?=some ⟨s,o1,o2,o3,o4,o5⟩)(h7:∀w,S w→(execOp a.eval ⟨s,o1,o2,o3,o4,o5⟩).run P w= .ok (.value v) w)(hS:S w)(h:bN P md ops Q S n f (listed.setIfInBounds i true) (a.put s v) w)(h1:Region.noSelect ops=true:=by kernel_rfl)(h2:Region.free md ops listed i=true:=by kernel_rfl)(h3:(Region.ready md ops listed).contains i=true:=by kernel_rfl)(h4:n.contains i=false:=by rfl)(h5:Region.wanted ⟨s,o1,o2,o3,o4,o5⟩ (yielded ops a.tmps)=true:=by rfl)(h8:xL md ops n i listed=true:=by kernel_rfl)(h6:∀c b u,Q (.panic c) (b.put s v) u→Q (.panic c) b u:=by exact fun _ _ _ h=>h):bN P md ops Q S n (f+1) listed a w:=
  abe hi h1 h2 h3 h4 h8 h6 (Or.inl ⟨h5,h7⟩) hS h
theorem nT (i:Nat){s:Option Tmp}(hi:ops[i]?=some ⟨s,o1,o2,o3,o4,o5⟩)(h:∀K:Act→World→Prop,RowKit.Hid (∀a' w',(i∉n→S w')→bN P md ops Q S n f (listed.setIfInBounds i true) a' w'→K a' w')→if Region.wanted ⟨s,o1,o2,o3,o4,o5⟩ (yielded ops a.tmps)=true then(Oper.mk s o1 o2 o3 o4 o5).wp P a w K Q else K (a.put s undef) w)(hr:Region.ready md ops listed=[i]:=by kernel_rfl):bN P md ops Q S n (f+1) listed a w:=aeo hi hr h
variable {s : Option Tmp} {v : Value} {a1 : Act}
theorem vW (i:Nat)(hi:ops[i]?=some ⟨s,o1,o2,o3,o4,o5⟩)(h:bN P md ops Q S n f (listed.setIfInBounds i true) a1 w)(h1:Region.noSelect ops=true:=by kernel_rfl)(h2:Region.free md ops listed i=true:=by kernel_rfl)(h3:(Region.ready md ops listed).contains i=true:=by kernel_rfl)(h4:n.contains i=false:=by rfl)(h5:Region.wanted ⟨s,o1,o2,o3,o4,o5⟩ (yielded ops a.tmps)=true:=by rfl)(h7:∀w,True→(execOp a.eval ⟨s,o1,o2,o3,o4,o5⟩).run P w= .ok (.value v) w:=by rintro w-;go_simp<;>rfl)(ha:a.put s v=a1:=by(try simp only[pt]);rfl)(hS:S w:=by exact hHeld)(h6:∀c b u,Q (.panic c) (b.put s v) u→Q (.panic c) b u:=by exact fun _ _ _ h=>h):bN P md ops Q S n (f+1) listed a w:=by
  subst ha;exact Tw hi h1 h2 h3 h4 h6 (Or.inl ⟨h5,h7⟩) hS h
theorem vL (i:Nat)(hi:ops[i]?=some ⟨s,o1,o2,o3,o4,o5⟩)(h:bN P md ops Q S n f (listed.setIfInBounds i true) a1 w)(h1:Region.noSelect ops=true:=by kernel_rfl)(h2:Region.free md ops listed i=true:=by kernel_rfl)(h3:(Region.ready md ops listed).contains i=true:=by kernel_rfl)(h4:n.contains i=false:=by rfl)(h5:Region.wanted ⟨s,o1,o2,o3,o4,o5⟩ (yielded ops a.tmps)=true:=by rfl)(h7:∀w,True→(execOp a.eval ⟨s,o1,o2,o3,o4,o5⟩).run P w= .ok (.value v) w:=by rintro w-;go_simp<;>rfl)(h8:(n.any fun k=>listed.getD k true)=true:=by kernel_rfl)(ha:a.put s v=a1:=by(try simp only[pt]);rfl)(h6:∀c b u,Q (.panic c) (b.put s v) u→Q (.panic c) b u:=by exact fun _ _ _ h=>h):bN P md ops Q S n (f+1) listed a w:=by
  subst ha;exact aen hi h1 h2 h3 h4 h6 (Or.inl ⟨h5,h7⟩) h8 h
theorem vT (i:Nat)(hi:ops[i]?=some ⟨s,o1,o2,o3,o4,o5⟩)(h:bN P md ops Q S n f (listed.setIfInBounds i true) a1 w)(h1:Region.noSelect ops=true:=by kernel_rfl)(h2:Region.free md ops listed i=true:=by kernel_rfl)(h3:(Region.ready md ops listed).contains i=true:=by kernel_rfl)(h4:n.contains i=false:=by rfl)(h5:Region.wanted ⟨s,o1,o2,o3,o4,o5⟩ (yielded ops a.tmps)=true:=by rfl)(h7:∀w,S w→(execOp a.eval ⟨s,o1,o2,o3,o4,o5⟩).run P w= .ok (.value v) w:=by intro w hh;(try dsimp only at hh);go_simp<;>rfl)(h8:xL md ops n i listed=true:=by kernel_rfl)(ha:a.put s v=a1:=by(try simp only[pt]);rfl)(hS:S w:=by exact hHeld)(h6:∀c b u,Q (.panic c) (b.put s v) u→Q (.panic c) b u:=by exact fun _ _ _ h=>h):bN P md ops Q S n (f+1) listed a w:=by
  subst ha;exact abe hi h1 h2 h3 h4 h8 h6 (Or.inl ⟨h5,h7⟩) hS h
theorem vU (i:Nat)(hi:ops[i]?=some ⟨s,o1,o2,o3,o4,o5⟩)(h:bN P md ops Q S n f (listed.setIfInBounds i true) a1 w)(h1:Region.noSelect ops=true:=by kernel_rfl)(h2:Region.free md ops listed i=true:=by kernel_rfl)(h3:(Region.ready md ops listed).contains i=true:=by kernel_rfl)(h4:n.contains i=false:=by rfl)(h5:Region.wanted ⟨s,o1,o2,o3,o4,o5⟩ (yielded ops a.tmps)=false:=by rfl)(ha:a.put s undef=a1:=by(try simp only[pt]);rfl)(hS:S w:=by exact hHeld)(h6:∀c b u,Q (.panic c) (b.put s undef) u→Q (.panic c) b u:=by exact fun _ _ _ h=>h):bN P md ops Q S n (f+1) listed a w:=by
  subst ha;exact Tw hi h1 h2 h3 h4 h6 (Or.inr ⟨h5,rfl⟩) hS h
theorem rT {id:Nat}(S:World→Prop)(n:List Nat)(h:bN P .any ops Q S n ops.size (Array.replicate ops.size false) a (World.drew w))(hm:P.follows .mixedOrders=true:=by kernel_rfl):(Code.region id ops true).wp P Q a w:=YD S n hm h
theorem kO {K:Act→World→Prop}{i:Nat}(hK:RowKit.Hid (∀a' w',(i∉n→S w')→bN P md ops Q S n f listed a' w'→K a' w'))(h:bN P md ops Q S n f listed a1 w)(ha:a=a1:=by(try simp only[pt]);rfl)(hs:i∉n→S w:=by first|exact fun h=>absurd (by decide) h|(intro _;exact hHeld)|(intro _;(try dsimp only);go_simp)):K a w:=by
  subst ha;exact hK.out _ _ hs h
end
end
end Go.Proofs.YtjfgpnapccdnlaaGreatDoor
