/- Figures of base 16, and of base 10, and what they are read as. No program in sight. -/
import Derived.Test.YthfgacnlojmmfaaGreatDoorDecP
import Derived.Lib.ItoaNum
import Derived.Test.YthfgacnlojmmfaaGreatDoorBuilder
import Derived.Test.YthfgacnlojmmfaaGreatDoorLaneP
import Derived.WalkKit
import Derived.WalkSpells
import Derived.WalkLawsBesides
import Derived.Laws.IdiomStrings
import Derived.Outline
import Derived.Test.YthfgacnlojmmfaaGreatDoorCoN
import Derived.Test.YthfgacnlojmmfaaGreatDoorRmF
import Derived.Test.YthfgacnlojmmfaaGreatDoorCoH
namespace Go.Proofs.YthfgacnlojmmfaaGreatDoor
set_option maxRecDepth 100000
set_option maxHeartbeats 4000000
open Go AmD Go.RowKit AmC AmL
def hexD (d:Nat):UInt8:=UInt8.ofNat (if d<10 then 48+d else 87+d)
def hexF:Nat→Nat→List UInt8
 |0,n=> [hexD n]
 |f+1,n=>if n<16 then [hexD n]else hexF f (n/16)++[hexD (n % 16)]
def hexs (n:Nat):List UInt8:=hexF 16 n
theorem hexF_length:∀(f n:Nat),(hexF f n).length≤f+1
 |0,_=>Nat.le_refl _
 |f+1,n=>by
  rw[hexF];split
  ·simp
  ·have:=hexF_length f (n/16);simp;omega
theorem hexs_length (n:Nat):(hexs n).length≤17:=hexF_length 16 n
theorem hexF_big (f n:Nat)(h:16≤n):hexF (f+1) n=hexF f (n/16)++[hexD (n % 16)]:=by rw[hexF,if_neg (by omega)]
theorem hexF_small (f n:Nat)(h:n<16):hexF f n=[hexD n]:=by
 cases f with
 |zero=>rfl
 |succ f=>rw[hexF,if_pos h]
section
variable {w wr : World} {i n u : Nat} {done : List UInt8} {cs : Array Value}
theorem hexTab (m:Nat)(h:m<16)(h':m<(⟨#[48,49,50,51,52,53,54,55,56,57,97,98,99,100,101,102,103,104,105,106,107,108,109,110,111,112,113,114,115,116,117,118,119,120,121,122]⟩:ByteArray).size):((⟨#[48,49,50,51,52,53,54,55,56,57,97,98,99,100,101,102,103,104,105,106,107,108,109,110,111,112,113,114,115,116,117,118,119,120,121,122]⟩:ByteArray)[m]'h').toNat=(hexD m).toNat:=by
 exact match m,h,h' with
 |0,_,_=>rfl
 |1,_,_=>rfl
 |2,_,_=>rfl
 |3,_,_=>rfl
 |4,_,_=>rfl
 |5,_,_=>rfl
 |6,_,_=>rfl
 |7,_,_=>rfl
 |8,_,_=>rfl
 |9,_,_=>rfl
 |10,_,_=>rfl
 |11,_,_=>rfl
 |12,_,_=>rfl
 |13,_,_=>rfl
 |14,_,_=>rfl
 |15,_,_=>rfl
 |k+16,hk,_=>absurd hk (by omega)
structure Fmt16 (w wr:World)(n u:Nat)(done:List UInt8)(cs:Array Value):Prop where
 len:done.length≤15
 lt:u<16^(16-done.length)
 eq:hexF (16-done.length) u++done=hexs n
 blk:Blk wr w.heap.size 317 cs
 size:cs.size=65
 cells:cs.toList.drop (65-done.length)=done.map (fun b=>Value.int .u8 (b.toNat:Int))
 below:Below w.heap.size w wr
theorem Fmt16.cell (h:Fmt16 w wr n u done cs)(hi:i<65):∃v,wr.cell? ⟨w.heap.size,i,none⟩=some v:=by
 rw[h.blk.cell];exact⟨cs[i]'(by rw[h.size];exact hi),Array.getElem?_eq_getElem _⟩
theorem Fmt16.lay (h:Fmt16 w wr n u done cs)(hi:65-done.length=i+1)(b:UInt8):
  Blk (wr.setCell ⟨w.heap.size,i,none⟩ (.int .u8 (b.toNat:Int))) w.heap.size 317 (cs.setIfInBounds i (.int .u8 (b.toNat:Int)))∧
  (cs.setIfInBounds i (.int .u8 (b.toNat:Int))).toList.drop i=(b::done).map (fun b=>Value.int .u8 (b.toNat:Int))∧Below w.heap.size w (wr.setCell ⟨w.heap.size,i,none⟩ (.int .u8 (b.toNat:Int))):=by
 have hsz:=h.size;have hl:=h.len;refine⟨h.blk.set_ i _, ?_,h.below.setCell (p:=⟨w.heap.size,i,none⟩) (Nat.le_refl _) _⟩
 have hil:i<cs.toList.length:=by simp;omega
 rw[Array.toList_setIfInBounds,List.drop_eq_getElem_cons (by simpa using hil)];rw[List.getElem_set_self,List.map_cons];congr 1;rw[List.drop_set_of_lt (by omega),←hi];exact h.cells
theorem Fmt16.next (h:Fmt16 w wr n u done cs)(hu:16≤u)(hi:65-done.length=i+1):
  Fmt16 w (wr.setCell ⟨w.heap.size,i,none⟩ (.int .u8 ((hexD (u % 16)).toNat:Int))) n (u/16) (hexD (u % 16)::done) (cs.setIfInBounds i (.int .u8 ((hexD (u % 16)).toNat:Int))):=by
 obtain⟨h1,h2,h3⟩:=h.lay hi (hexD (u % 16))
 have hl:done.length<15:=by
  rcases Nat.lt_or_ge done.length 15 with q|q
  ·exact q
  ·have e:16-done.length=1:=by have:=h.len;omega
   have:=h.lt;rw[e]at this;omega
 obtain⟨f,hf⟩:∃f,16-done.length=f+1:=⟨15-done.length,by omega⟩
 have hf':16-(hexD (u % 16)::done).length=f:=by rw[List.length_cons];omega
 refine⟨by rw[List.length_cons];omega, ?_, ?_,h1,by simpa using h.size, ?_,h3⟩
 ·rw[hf'];have:=h.lt;rw[hf,Nat.pow_succ]at this;exact Nat.div_lt_of_lt_mul (by rw[Nat.mul_comm];exact this)
 ·rw[hf',←h.eq,hf,hexF_big f u hu];simp
 ·have e:65-(hexD (u % 16)::done).length=i:=by rw[List.length_cons];omega
  rw[e];exact h2
theorem Fmt16.last (h:Fmt16 w wr n u done cs)(hu:u<16)(hi:65-done.length=i+1):
  hexs n=hexD u::done∧(hexs n).length=65-i∧(∀j (hj:j<(hexs n).length),(wr.setCell ⟨w.heap.size,i,none⟩ (.int .u8 ((hexD u).toNat:Int))).cell? ((⟨w.heap.size,i,none⟩:Addr).add j)=some (.int .u8 ((hexs n)[j].toNat:Int)))∧
  Below w.heap.size w (wr.setCell ⟨w.heap.size,i,none⟩ (.int .u8 ((hexD u).toNat:Int))):=by
 obtain⟨h1,h2,h3⟩:=h.lay hi (hexD u)
 have e:hexs n=hexD u::done:=by rw[←h.eq,hexF_small _ _ hu];rfl
 have hl:=h.len;refine⟨e,by rw[e,List.length_cons];omega,fun j hj=> ?_,h3⟩
 have hadd:(⟨w.heap.size,i,none⟩:Addr).add j=⟨w.heap.size,i+j,none⟩:=by unfold Addr.add;split<;>simp_all
 rw[hadd,h1.cell]
 have h4:((cs.setIfInBounds i (.int .u8 ((hexD u).toNat:Int))).toList.drop i)[j]?=some (.int .u8 ((hexs n)[j].toNat:Int)):=by
  rw[h2];simp only[←e,List.getElem?_map];rw[List.getElem?_eq_getElem hj];rfl
 rw[List.getElem?_drop]at h4;rw[←Array.getElem?_toList];exact h4
theorem Fmt16.start (w:World)(n:Nat)(hn:n<18446744073709551616)(cs:Array Value)(hc:cs.size=65):Fmt16 w (w.alloc (.cells cs 317)) n n [] cs:=
 ⟨by simp,by simpa using hn,by simp[hexs],Blk.new _ _ _,hc,by rw[List.drop_eq_nil_of_le (by simp[hc])];rfl,(Below.refl _ _).alloc (Nat.le_refl _) _⟩
theorem tz16 (w:World)(hT:w.cell? ⟨18,15,none⟩=some (.int .u8 4)):
  Calls Tryz.prog 223 #[.int .u64 16] w fun e w'=>e= .returned (.int .i64 4)∧w=w':=by
 have hT':w.cell? ⟨18,(IntKind.u64.wrap (bits BinOp.and IntKind.u64 16 (IntKind.u64.wrap (-16))*285870213051353865)/288230376151711744).toNat,none⟩=some (.int .u8 4):=by
  have:(IntKind.u64.wrap (bits BinOp.and IntKind.u64 16 (IntKind.u64.wrap (-16))*285870213051353865)/288230376151711744).toNat=15:=by decide
  rw[this];exact hT
 clear hT;go_in;go_wp2;go_ret;exact⟨rfl,rfl⟩
theorem slice65 (W:World)(b i:Nat)(h:i≤64):(Instr.sliceAt 317 (.pointer (some ⟨b,0,none⟩)) (some (.int .i64 (i:Int))) none none).run Tryz.prog W= .ok (.slice (some ⟨b,i,none⟩) (65-i) (65-i)) W:=by
 have ha:Tryz.prog.arrayLen 317 =65:=by kernel_rfl
 have hu:Tryz.prog.underlying 317 =some (.array (Tryz.prog.arrayLen 317) (Tryz.prog.elem 317)):=by kernel_rfl
 have hs:∀w,(sizeOf (Tryz.prog.elem 317)).run Tryz.prog w= .ok 1 w:=fun w=>by kernel_rfl
 rw[run_sliceAt_array_l W 317 ⟨b,0,none⟩ hu .i64 i (by omega) (by rw[ha];omega),hs];simp only[Result.andThen_ok,slicedAt,ha,Int.toNat_natCast];rw[if_neg (by omega)];by_cases h0:i=0
 ·subst h0;rfl
 ·simp[Addr.add,h0]
theorem formatBits16 (n:Nat)(hn:n<18446744073709551616)(w:World)(hT:w.cell? ⟨18,15,none⟩=some (.int .u8 4)):
  Calls Tryz.prog 173 #[.slice none 0 0,.int .u64 n,.int .i64 16,.bool false,.bool false] w fun e w'=>∃v,e= .returned (.tuple #[v,strV (hexs n)])∧Below w.heap.size w w':=by
 have hT1:∀o,(w.alloc o).cell? ⟨18,15,none⟩=some (.int .u8 4):=fun o=>(World.cell?_alloc_lt w o _ (World.block_lt_of_cell? w _ hT)).trans hT;have HT1:=qd hT1;clear hT1
 have hp2:(bits BinOp.and IntKind.i64 16 15==0)=true:=by decide
 go_in;go_wp2_with (first|(go_at_call 223;refine(tz16 _ (HT1.out _)).mono ?_;rintro e w' ⟨rfl,rfl⟩)|go_in);go_loopw [1,13] (fun vu vi wr=>∃(u:Nat) (done:List UInt8) (cs:Array Value),vu= .int .u64 u∧vi= .int .i64 ((65-done.length:Nat):Int)∧Fmt16 w wr n u done cs) (fun vu _ _=>(intOf vu).toNat)
 case atStart=>exact⟨n,[],_,rfl,rfl,Fmt16.start w n hn _ (by kernel_rfl)⟩
 case round=>
  obtain⟨u,done,cs,rfl,rfl,h⟩:=hrel
  have hu64:u<18446744073709551616:=by
   have h1:=h.lt;have h2:16^(16-done.length)≤16^16:=Nat.pow_le_pow_right (by omega) (by omega)
   have h3:(16:Nat)^16=18446744073709551616:=by decide
   omega
  have hdl:=h.len;obtain⟨i,hi⟩:∃i,65-done.length=i+1:=⟨64-done.length,by omega⟩
  have hil:i≤64:=by omega
  have Hi:=qd hi;have hf:=h.blk.frozen i;obtain⟨v0,hc⟩:=h.cell (i:=i) (by omega);rw[hi];clear hi;by_cases h16:16≤u
  ·have hand:bits BinOp.and IntKind.u64 (u:Int) 15=((u % 16:Nat):Int):=by
    have:=u64_and_nat u 15 hu64 (by omega);rw[show(15:Nat)=2^4-1 from rfl,Nat.and_two_pow_sub_one_eq_mod]at this;exact this
   have hm:u % 16<16:=Nat.mod_lt _ (by omega);have htab:=hexTab (u % 16) hm (by show u % 16<36;omega);have hN:=h.next h16 Hi.out;clear h;go_wp2;go_roundw
   case rel=>exact⟨u/16,_,_,rfl,by rw[List.length_cons];have:=Hi.out;rw[show 65-(done.length+1)=i by omega],hN⟩
   case measure=>simp[intOf];omega
  ·have htab:=hexTab u (by omega) (by show u<36;omega);obtain⟨e1,e2,e3,e4⟩:=h.last (by omega) Hi.out;have hconv:=run_convert_bytes_back (P:=Tryz.prog) (wr.setCell ⟨w.heap.size,i,none⟩ (.int .u8 ((hexD u).toNat:Int))) 106 9 5 ⟨w.heap.size,i,none⟩ (65-i) (hexs n) Tryz.underlying106 Tryz.underlying5 Tryz.underlying9 e3;rw[e2]at hconv;have hsl:∀W,(Instr.sliceAt 317 (.pointer (some ⟨w.heap.size,0,none⟩)) (some (.int .i64 (i:Int))) none none).run Tryz.prog W= .ok (.slice (some ⟨w.heap.size,i,none⟩) (65-i) (65-i)) W:=fun W=>slice65 W w.heap.size i hil;have E1:=qd e1;clear h e1 e2 e3;go_wp2;go_ret2
   first|exact⟨_,rfl,e4⟩|exact⟨⟨_,rfl⟩,e4⟩
theorem FormatUint16 (n:Nat)(hn:n<18446744073709551616)(w:World)(hT:w.cell? ⟨18,15,none⟩=some (.int .u8 4)):
  Calls Tryz.prog 81 #[.int .u64 n,.int .i64 16] w fun e w'=>e= .returned (strV (hexs n))∧Below w.heap.size w w':=by
 have HF:=qd (formatBits16 n hn w hT);go_in;go_wp2_with (first|(go_at_call 173;refine HF.out.mono ?_;rintro e w' ⟨v,rfl,hb⟩)|go_in);go_ret;exact⟨rfl,hb⟩
theorem words_Hex (n:Nat)(hn:n<18446744073709551616)(w:World)(hT:w.cell? ⟨18,15,none⟩=some (.int .u8 4)):
  Calls Tryz.prog 47 #[.int .u64 n] w fun e w'=>e= .returned (strV (48::120::hexs n))∧Below w.heap.size w w':=by
 have HF:=qd (FormatUint16 n hn w hT);unfold strV at HF;have hlen:=hexs_length n;go_in;go_wp2_with (first|(go_at_call 81;refine HF.out.mono ?_;rintro e w' ⟨rfl,hb⟩));go_ret;refine⟨ret_val ?_,hb⟩;unfold strV;congr 1
end
def lineB (p:Nat×Nat):List UInt8:=(48::120::hexs p.1)++32::((48::120::hexs p.2)++[10])
def textB (l:PL):List UInt8:=l.flatMap lineB
theorem textB_take {l:PL}{i:Nat}{p:Nat×Nat}(hp:l[i]?=some p):textB (l.take (i+1))=textB (l.take i)++lineB p:=by
 unfold textB;rw[List.take_add_one,hp,List.flatMap_append];simp
theorem lineB_len (p:Nat×Nat):(lineB p).length≤40:=by
 have h1:=hexs_length p.1;have h2:=hexs_length p.2;unfold lineB;simp only[List.length_append,List.length_cons,List.length_nil];omega
theorem textB_len (l:PL):(textB l).length≤l.length*40:=by
 unfold textB
 induction l with
 |nil=>simp
 |cons p l ih=>
  have:=lineB_len p;rw[List.flatMap_cons,List.length_append,List.length_cons];omega
theorem line_text (a b:List UInt8)(p:Nat×Nat)(ha:a=48::120::hexs p.1)(hb:b=48::120::hexs p.2):((((⟨a.toArray⟩:ByteArray)++⟨#[32]⟩)++⟨b.toArray⟩)++⟨#[10]⟩).data.toList=lineB p:=by
 subst ha hb;simp[ByteArray.data_append,lineB]
theorem snap_Text {w:World}{l:PL}{A:Option Addr}{c B:Nat}(hl:Reads w B 2 A l.length (l.flatMap pairC))(hn:l.length≤100000)(h64:∀p∈l,p.1<18446744073709551616∧p.2<18446744073709551616)(hT:w.cell? ⟨18,15,none⟩=some (.int .u8 4)):
  Calls Tryz.prog 19 #[.slice A l.length c] w fun y w'=>y= .returned (strV (textB l))∧Below w.heap.size w w':=by
 have HL:=qd hl;have HH:=qd (fun(n:Nat) (hn:n<18446744073709551616) (W:World) (hb:Below w.heap.size w W)=>words_Hex n hn W (cell_in hb hT));have H64:=qd h64;have HB:=qd (show TxtAt w.heap.size w.heap.size (textB (l.take 0)) (w.alloc (.cells #[.pointer none,.slice none 0 0] 108))∧Below w.heap.size w (w.alloc (.cells #[.pointer none,.slice none 0 0] 108))from⟨TxtAt.new w,(Below.refl _ _).alloc (Nat.le_refl _) _⟩);clear hl hT h64;go_in;go_wp2;go_loopw [8] (fun i wr=>∃k:Nat,k≤l.length∧i= .int .i64 (k:Int)∧Hid (TxtAt w.heap.size w.heap.size (textB (l.take k)) wr∧Below w.heap.size w wr)) (fun i _=>l.length-(intOf i).toNat)
 case atStart=>exact⟨0,by omega,rfl,HB⟩
 case round=>
  clear HB;obtain⟨i,hi,rfl,HB⟩:=hrel;by_cases hlt:i<l.length
  ·have hlt':(i:Int)<(l.length:Int):=by omega
   have hi0:(0:Int)≤(i:Int):=by omega
   have hwi:IntKind.i64.wrap ((i:Int)+1)=((i+1:Nat):Int):=by rw[IntKind.wrap_i64];omega
   obtain⟨p,hp⟩:∃p,l[i]?=some p:=⟨_,List.getElem?_eq_getElem hlt⟩;obtain⟨g,off,hA,hgl,hc⟩:=HL.out.2 (by omega);have r0:wr.cell? ⟨g,off+i*2,none⟩=some (.int .u64 (p.1:Int)):=cell_in HB.out.2 (hc (i*2+0) _ (pairC_at hp (by omega)));have r1:wr.cell? ⟨g,off+i*2+1,none⟩=some (.int .u64 (p.2:Int)):=cell_in HB.out.2 (hc (i*2+1) _ (pairC_at hp (by omega)));have HP:=qd (And.intro hp (H64.out p (List.mem_of_getElem? hp)));have HTk:=qd (textB_take hp);have HLen:=qd (show(textB (l.take i)).length≤33554432 from by have:=textB_len (l.take i);rw[List.length_take]at this;omega);subst hA;clear hc hp;go_upto_region 5 with fail;refine nameW (F:=fun v=>Blk v wr.heap.size 35 #[.int .u64 (p.1:Int),.int .u64 (p.2:Int)]∧Below wr.heap.size wr v) ⟨Blk.new wr 35 #[.int .u64 (p.1:Int),.int .u64 (p.2:Int)],(Below.refl wr.heap.size wr).alloc (Nat.le_refl _) _⟩ ?_;rintro w6 ⟨hB6,hb6⟩;have HB6:=qd (And.intro (HB.out.1.below hb6) (HB.out.2.trans (hb6.mono HB.out.2.size)));obtain⟨bx,hbx⟩:∃bx,bx=wr.heap.size:=⟨_,rfl⟩;rw[←hbx]at hB6⊢;have HX6:=qd hB6;have x:=hB6.c2;clear hB6 hb6 hbx HB r0 r1;refine rT (fun(w':World)=>w'.cell? ⟨bx,0,none⟩=some (.int .u64 (p.1:Int))∧w'.cell? ⟨bx,1,none⟩=some (.int .u64 (p.2:Int))) [] ?_;have hHeld:=And.intro x.1 x.2;refine vW 0 rfl ?_;refine vT 1 rfl ?_;refine vW 4 rfl ?_;refine vT 5 rfl ?_;obtain⟨s1,hs1⟩:∃s1:ByteArray,s1=⟨(48::120::hexs p.1:List UInt8).toArray⟩:=⟨_,rfl⟩;obtain⟨s2,hs2⟩:∃s2:ByteArray,s2=⟨(48::120::hexs p.2:List UInt8).toArray⟩:=⟨_,rfl⟩
   have HS1:=qd (fun(W:World) (hb:Below w.heap.size w W)=>show Calls Tryz.prog 47 #[.int .u64 (p.1:Int)] W (fun e w'=>e= .returned (.string s1)∧Below W.heap.size W w')from by have:=HH.out p.1 HP.out.2.1 W hb;unfold strV at this;rw[hs1];exact this);have HS2:=qd (fun(W:World) (hb:Below w.heap.size w W)=>show Calls Tryz.prog 47 #[.int .u64 (p.2:Int)] W (fun e w'=>e= .returned (.string s2)∧Below W.heap.size W w')from by have:=HH.out p.2 HP.out.2.2 W hb;unfold strV at this;rw[hs2];exact this);obtain⟨s3,hs3⟩:∃s3,s3=((s1++⟨#[32]⟩)++s2)++⟨#[10]⟩:=⟨_,rfl⟩;have HS3:=qd hs3;have HLn:=qd (show s3.data.toList=lineB p from by rw[hs3,hs1,hs2];exact line_text _ _ p rfl rfl)
   have hz:s1.size≤40∧s2.size≤40:=by
    have h1:=hexs_length p.1;have h2:=hexs_length p.2
    have e1:s1.size=(48::120::hexs p.1:List UInt8).length:=by rw[hs1];rfl
    have e2:s2.size=(48::120::hexs p.2:List UInt8).length:=by rw[hs2];rfl
    rw[e1,e2,List.length_cons,List.length_cons,List.length_cons,List.length_cons];omega
   have hz1:¬9223372036854775807<s1.size+1:=by omega
   have hz2:¬9223372036854775807<s1.size+1+s2.size:=by omega
   have hz3:¬9223372036854775807<s1.size+1+s2.size+1:=by omega
   clear hs1 hs2 hs3 hz;refine nT 2 rfl fun K hK=> ?_;go_simp;refine(HS1.out _ HB6.out.2.drew).mono ?_;rintro y w7 ⟨rfl,hb7⟩;have HB7:=qd (And.intro ((HB6.out.1.below (Below.refl _ _).drew).below hb7) (HB6.out.2.drew.trans (hb7.mono HB6.out.2.size)));have HX7:=qd ((HX6.out.drew).below hb7 HX6.out.lt);have x:=HX7.out.c2;clear hb7;go_wp2_with fail;have hHeld:=And.intro x.1 x.2;refine kO hK ?_;clear hK K;refine vW 3 rfl ?_;refine nT 6 rfl fun K hK=> ?_;go_simp;refine(HS2.out _ HB7.out.2).mono ?_;rintro y w8 ⟨rfl,hb8⟩;have HB8:=qd (And.intro (HB7.out.1.below hb8) (HB7.out.2.trans (hb8.mono HB7.out.2.size)));have HX8:=qd (HX7.out.below hb8 HX7.out.lt);have x:=HX8.out.c2;clear hb8;go_wp2_with fail;have hHeld:=And.intro x.1 x.2;refine kO hK ?_;clear hK K;refine vW 7 rfl ?_;refine vW 8 rfl ?_;refine nT 9 rfl fun K hK=> ?_;go_simp;rw[←HS3.out]
   have hsl:s3.size≤33554432:=by
    have h1:=lineB_len p
    have h2:s3.size=s3.data.toList.length:=by rw[Array.length_toList];rfl
    rw[h2,HLn.out];omega
   refine(builder_textF _ _ _ s3 _ HB8.out.1 HLen.out hsl).mono ?_;rintro y w9 ⟨rfl,hbl9,hb9,hk9⟩;have hX9:=hk9 bx _ _ HX8.out (by decide) (by decide);have x:=hX9.c2;clear hX9 hk9;rw[HLn.out,←HTk.out]at hbl9;have HB9:=qd (And.intro hbl9 (HB8.out.2.trans hb9));clear hbl9 hb9;go_wp2_with fail;have hHeld:=And.intro x.1 x.2;refine kO hK ?_;clear hK K;refine doneT (by kernel_rfl) ?_ _;have HM:=qd (show l.length-(i+1)<l.length-i by omega);go_wp2;go_roundw
   case measure=>simp[intOf];exact HM.out
   exact⟨i+1,by omega,rfl,HB9⟩
  ·obtain rfl:i=l.length:=by omega
   have hlt':¬(l.length:Int)<(l.length:Int):=by omega
   have hb:=HB.out;rw[List.take_of_length_le (Nat.le_refl _)]at hb;have HS:=qd (Tryz.Builder_String_any w.heap.size w.heap.size (textB l) wr hb.1 hb.1.le);have HB2:=qd hb.2;clear hb;go_wp2_with (go_at_call 48;refine HS.out.mono ?_;rintro e w1 ⟨rfl,hb1⟩);go_ret;exact⟨rfl,HB2.out.trans hb1⟩
def sumS (s:ByteArray):Nat→Int
 |0=>14695981039346656037
 |i+1=>IntKind.u64.wrap (bits .xor .u64 (sumS s i) ((s.data.toList.getD i 0).toNat:Int)*1099511628211)
theorem hex1:textB [(1,2)]=[48,120,49,32,48,120,50,10]:=by decide
theorem put12:AscP [(1,2)]:=by unfold AscP;simp
theorem law39_alive {W0:World}{E:Nat→Addr}{w:World}(hE:Env W0 E w)(h6:ErrAt E W0 6)(hT:W0.cell? ⟨18,15,none⟩=some (.int .u8 4)):
  Calls Tryz.prog 4 #[] w fun y w'=>y= .returned (.bool true)∧Below w.heap.size w w':=by
 have HN:=qd (mp_New (fun _=>3) hE 1 5 1 (by decide) 1 5 1 (by omega) (by omega));have HE:=qd hE;have HX:=qd (And.intro h6 hT);unfold cfgV at HN;clear hE h6 hT;go_in;go_wp2_with fail;refine HN.out.mono ?_;rintro y w1 ⟨b,G,rfl,hA1,hG1,hb1⟩;have hpt:=mp_Put hA1 ⟨1,2,3⟩ ⟨rfl,by decide,by decide,by decide⟩;rw[show noRoom 5 none 0=false from by decide]at hpt;simp only[Bool.false_eq_true,if_false,errV_zero]at hpt;have HPt:=qd hpt;have HG:=qd (And.intro hG1 hb1);clear hA1 hG1 hb1 hpt HN;go_wp2_with fail;refine HPt.out.mono ?_;rintro y w2 ⟨rfl,G2,hA2,hs2,hm2⟩;have HTk:=qd (mp_Take hA2 (by omega) (by omega) HX.out.1);have HB2:=qd (show Below w.heap.size w w2∧∀q∈G2,w.heap.size≤q from⟨HG.out.2.trans (hm2.below HG.out.1 HG.out.2.size),fun q hq=>(hs2 q hq).elim (HG.out.1 q) (fun k=>by have:=HG.out.2.size;omega)⟩);clear hA2 hs2 hm2 HPt HG;go_wp2_with fail;refine HTk.out.mono ?_;rintro y w3 ⟨v,l,G3,rfl,hasc,hget,ho3,hap,hA3,hs3,hm3⟩
 obtain rfl:l=[(1,2)]:=asc_same hasc put12 fun k=>by
  rw[hget];unfold putF;rw[show noRoom 5 none 0=false from by decide];simp only[Bool.false_eq_true,if_false];by_cases hk:k=1
  ·subst hk;rfl
  ·rw[if_neg hk];symm;rw[getP_none];intro p hp;obtain rfl:=List.mem_singleton.1 hp;exact fun e=>hk e.symm
 obtain⟨A,c,rfl⟩:=own_form ho3;have hT3:w3.cell? ⟨18,15,none⟩=some (.int .u8 4):=cell_in (hA3.env.below) HX.out.2;have htx:=snap_Text (c:=c) (Reads.of_own ho3) (by decide) (by decide) hT3;rw[hex1]at htx;unfold strV at htx;have HTx:=qd htx;have HB3:=qd (HB2.out.1.trans (hm3.below HB2.out.2 HB2.out.1.size));clear hasc hget ho3 hap hA3 hs3 hm3 hT3 htx HTk HB2;go_wp2_with fail;refine HTx.out.mono ?_;rintro y w4 ⟨rfl,hb4⟩;have HB4:=qd (HB3.out.trans (hb4.mono HB3.out.size));clear hb4 HB3;go_wp2;go_ret;exact⟨rfl,HB4.out⟩
section
variable {E : Nat → Addr} {w : World}
theorem allCells_get (E:Nat→Addr)(k:Nat)(h:k<16):(allCells E)[k]?=some (.iface 346 (.pointer (some (E (k+1))))):=by
 unfold allCells;rw[List.getElem?_map,List.getElem?_range h];rfl
theorem num_err (h:ErrsIn E w)(j:Nat)(h1:1≤j)(h2:j≤16):
  Calls Tryz.prog 9 #[.iface 346 (.pointer (some (E j)))] w fun e w'=>e= .returned (.int .i64 j)∧Below w.heap.size w w':=by
 have hS:=h.alloc (.cells (allCells E).toArray 28);have hcells:=Blk.new w 28 (allCells E).toArray;have hB:Below w.heap.size w (w.alloc (.cells (allCells E).toArray 28)):=(Below.refl _ _).alloc (Nat.le_refl _) _;go_in;go_wp2_with (go_at_call 23;refine(num_all h).mono ?_;rintro e w1 ⟨rfl,rfl⟩);obtain⟨W,hW⟩:∃W,W=w.alloc (.cells (allCells E).toArray 28):=⟨_,rfl⟩;rw[←hW]at hS hcells hB⊢;clear hW;go_loop [3,4,9] (fun _ _ i=>∃k:Nat,k<j∧i= .int .i64 k) (fun _ _ i=>16-(intOf i).toNat)
 case atStart=>exact⟨0,by omega,rfl⟩
 case round=>
  obtain⟨k,hk,rfl⟩:=hrel
  have hc:W.cell? ⟨w.heap.size,k,none⟩=some (.iface 346 (.pointer (some (E (k+1))))):=by rw[hcells.cell k,List.getElem?_toArray];exact allCells_get E k (by omega)
  have hi:=is_errs hS j (k+1) h1 h2 (by omega) (by omega);by_cases hjk:j=k+1
  ·have hb:(j==k+1)=true:=by simp[hjk]
   rw[hb]at hi;have Hjk:=qd hjk;clear hjk hb;go_wp2_with (go_at_call 24;refine hi.mono ?_;rintro e w1 ⟨rfl,rfl⟩);go_ret;exact⟨ret_int (by have:=Hjk.out;omega),hB⟩
  ·have hb:(j==k+1)=false:=by simp[hjk]
   rw[hb]at hi;clear hb;go_wp2_with (go_at_call 24;refine hi.mono ?_;rintro e w1 ⟨rfl,rfl⟩);go_round
   case rel=>exact⟨k+1,by omega,by go_num⟩
   case measure=>simp[intOf];omega
theorem num_any (h:ErrsIn E w)(j:Nat)(h2:j≤16):
  Calls Tryz.prog 9 #[errV E j] w fun e w'=>e= .returned (.int .i64 j)∧Below w.heap.size w w':=by
 by_cases h0:j=0
 ·subst h0;exact(num_nil w).mono fun e w' ⟨he,hw⟩=>⟨he,hw▸Below.refl _ _⟩
 ·rw[errV_pos E (by omega)];exact num_err h j (by omega) h2
end
end Go.Proofs.YthfgacnlojmmfaaGreatDoor
