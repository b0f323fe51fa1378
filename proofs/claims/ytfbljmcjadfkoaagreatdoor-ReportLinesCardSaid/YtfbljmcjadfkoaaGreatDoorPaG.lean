/- scribe.Line by its contract. -/
import Derived.Test.YtfbljmcjadfkoaaGreatDoorScribeC
import Derived.Test.YtfbljmcjadfkoaaGreatDoorSq
import Derived.Deep.AppendLies
import Derived.Deep.RegionHeld3
import Derived.Deep.DrawnRows
import Derived.Lib.AppendIntMem
import Derived.Lib.ItoaMem
import Derived.Test.YtfbljmcjadfkoaaGreatDoorScriptD
import Derived.Test.YtfbljmcjadfkoaaGreatDoorSqT
import Derived.Deep.CutRange
namespace Go.Proofs.YtfbljmcjadfkoaaGreatDoor
set_option maxRecDepth 100000
set_option maxHeartbeats 4000000
open Go.RowKit AmS AmD AmW Go.Shelf AmC AmL AmF
section
variable {w w' w0 : World} {base : Nat} {u v v' : Value} {E : Nat → Addr}
theorem step_appendm {P:Program}{ops:Array Oper}{o:Oper}{a:Act}{K:Act→World→Prop}{Q:Exit→Act→World→Prop}{X:Prop}(hgd:o.guard=none){s x:Operand}{t:TypeId}(ho:o.op= .call {callee:= .builtin .append,args:= #[s,x],argTypes:= #[t,t]}){e:TypeId}{size bytes:Nat}(hT:SlTy P t e size bytes){n:Nat}{xs:List Value}(hown:w0.ownsRow base e size v n xs)(hs:a.eval s=v){cs:Array Value}{t':TypeId}{c m:Nat}{g:Nat}(hx:a.eval x= .slice (some ⟨g,0,none⟩) m c)(hg0:g=w0.heap.size)(hl:cs.size=m*size)(h1':(cs.toList.all fun u=>u.oneCell')=true)(hm:0<m)(hn:n+m<33554432)(hbase:base≤w0.heap.size)(h:∀v' w',w'.ownsRow base e size v' (n+m) (xs++cs.toList)→Grew w0 base v w' v'→K (a.put o.dst v') w'):
  if Region.wanted o (yielded ops a.tmps)=true then Oper.wp P o a (w0.alloc (.cells cs t')) K Q else X:=by
 obtain⟨i,z,ht,hi,hz,hsize,hby,hzs,hsz,hb⟩:=hT;have h1:∀u∈cs.toList,u.oneCell'=true:=List.all_eq_true.1 h1';subst hg0
 refine step_append_lies (w0.alloc (.cells cs t')) hgd s x t ho base e i z size bytes ht hi hz hsize hby hzs hsz v n xs hs (hown.alloc _) ⟨w0.heap.size,0,none⟩ m c cs.toList hx (by simp[hl]) ?_ h1 hm
  (by simp only[maxLen];omega) ?_ (by simp;omega) (w0.heap.size+1) (by simp) ?_
 ·intro j u hj
  have hadd:(⟨w0.heap.size,0,none⟩:Addr).add j=⟨w0.heap.size,j,none⟩:=by unfold Addr.add;split<;>simp_all
  rw[hadd,(Blk.new w0 t' cs).cell];simpa using hj
 ·have:(n+m)*bytes≤33554432*4096:=Nat.mul_le_mul (by omega) hb;omega
 ·intro g cap w' hown' hg hat _;have hlt:=hown.lt;have hb0:Below base w0 (w0.alloc (.cells cs t')):=(Below.refl _ _).alloc hbase _;refine h _ w' hown' ⟨hb0.grown hg (by simp;omega) (fun k hk=>(hlt k hk).1),⟨hg.os,hg.tape,hg.output,by have:=hg.size;simp at this;omega,fun k hk hne=> ?_⟩, ?_⟩
  ·exact(hg.block k (by simp;omega) hne).trans (Below.heap_alloc w0 _ k hk)
  ·rcases hat with hat|hat
   ·exact .inl (by rw[hat];rfl)
   ·exact .inr ⟨g,rfl,by omega⟩
theorem cell_call {W W':World}{a:Addr}(hb:Below W.heap.size W W')(h:W.cell? a=some v):W'.cell? a=some v:=(hb.cell (World.block_lt_of_cell? W a h)).trans h
def NamesIn (w:World):Prop:=∀i,i<9→w.cell? ⟨0,i,none⟩=some (strV (names.getD i []))
theorem NamesIn.of_block (h:NamesIn w)(hb:∀k,k<w.heap.size→w'.heap[k]?=w.heap[k]?):NamesIn w':=fun i hi=>(World.cell?_of_block (hb _ (World.block_lt_of_cell? w _ (h i hi)))).trans (h i hi)
theorem word_names (k:Int)(w:World)(hN:NamesIn w):Calls Tryz.prog 21 #[.int .i64 k] w fun e w'=>e= .returned (strV (wordOf k))∧w=w':=by
 cases hk:isKind k with
 |false=>
  have HI:=qd (fun W=>by have:=script_is k W;rw[hk]at this;exact this);rw[wordOf_none hk];clear hk;go_in;go_wp2_with fail;refine(HI.out _).mono ?_;rintro e w1 ⟨rfl,rfl⟩;go_wp2;go_ret;exact⟨rfl,rfl⟩
 |true=>
  have HI:=qd (fun W=>by have:=script_is k W;rw[hk]at this;exact this);have hr:=kinds8' hk;obtain⟨n,rfl⟩:=Int.eq_ofNat_of_zero_le (show 0≤k by omega)
  have h1:1≤n:=by omega
  have h8:n≤8:=by omega
  rw[wordOf_at n h1 h8];have hc:w.cell? ⟨0,n,none⟩=some (.string ⟨(names.getD n []).toArray⟩):=hN n (by omega);unfold strV;generalize(⟨(names.getD n []).toArray⟩:ByteArray)=s at hc⊢;clear hk hr
  have hn9:(n:Int)<9:=by omega
  go_in;go_wp2_with fail;refine(HI.out _).mono ?_;rintro e w1 ⟨rfl,rfl⟩;go_wp2;go_ret;exact⟨rfl,rfl⟩
structure ScribeIn (E:Nat→Addr)(w:World):Prop where
 names:NamesIn w
 e3:ErrAt E w 3
 e8:ErrAt E w 8
 e9:ErrAt E w 9
 tz:w.cell? ⟨19,15,none⟩=some (.int .u8 4)
 pow:Lib.TabIs Tryz.prog w "internal/strconv.uint64pow10" .u64 Lib.pow10Tab
theorem gPow:Tryz.prog.globalNamed "internal/strconv.uint64pow10" =some 12 :=by kernel_rfl
theorem pow_of_block (h:Lib.TabIs Tryz.prog w "internal/strconv.uint64pow10" .u64 Lib.pow10Tab)(hb:∀k,k<w.heap.size→w'.heap[k]?=w.heap[k]?):Lib.TabIs Tryz.prog w' "internal/strconv.uint64pow10" .u64 Lib.pow10Tab:=by
 unfold Lib.TabIs World.var? at h⊢;simp only[gPow,Option.bind_some]at h⊢
 have hlt:12 <w.heap.size:=by
  rcases Nat.lt_or_ge 12 w.heap.size with h1|h1
  ·exact h1
  ·simp[Array.getElem?_eq_none h1]at h
 rw[hb _ hlt];exact h
theorem ScribeIn.of_block (h:ScribeIn E w)(hb:∀k,k<w.heap.size→w'.heap[k]?=w.heap[k]?):ScribeIn E w':=
 ⟨h.names.of_block hb,h.e3.of_block hb,h.e8.of_block hb,h.e9.of_block hb,(World.cell?_of_block (hb _ (World.block_lt_of_cell? w _ h.tz))).trans h.tz,pow_of_block h.pow hb⟩
theorem ScribeIn.below {B:Nat}(h:ScribeIn E w)(hb:Below B w w')(hB:w.heap.size≤B):ScribeIn E w':=h.of_block fun k hk=>hb.block k (by omega)
theorem ScribeIn.alloc (h:ScribeIn E w)(o:Obj):ScribeIn E (w.alloc o):=h.of_block fun k hk=>Below.heap_alloc w o k hk
theorem ScribeIn.drewN (h:ScribeIn E w)(n:Nat):ScribeIn E (w.drewN n):=h.of_block fun _ _=>rfl
def LinePost (E:Nat→Addr)(w:World)(o:SOp)(e:Ending)(w':World):Prop:=
 (if rightB o then e= .returned (.tuple #[strV (lineOf o),.nilIface])else e= .returned (.tuple #[.string ⟨#[]⟩,.iface 372 (.pointer (some (E 3)))]))∧Below w.heap.size w w'
structure LineAt (E:Nat→Addr)(w:World)(o:SOp)(v:Value)(xs:List Bts)(W:World):Prop where
 own:StrsOwn W w.heap.size v xs
 below:Below w.heap.size w W
end
section
variable {n' : List Nat} {b k : Nat} {w : World} {v : Value}
section
variable {P : Program} {ops : Array Oper} {Q : Exit → Act → World → Prop} {md : Region.Mode} {S : World → Prop} {n : List Nat}
theorem wpAnyT_to {S':World→Prop}:∀(f:Nat) (listed:Array Bool) (a:Act) (w:World),wpAnyT P md ops Q S' n' f listed a w→wpAnyT P md ops Q (fun _=>True) n f listed a w
 |0,_,_,_,h=>h
 |f+1,_,_,_,h=>⟨h.1,fun i hi=>wpOp_mono (fun _ _ h'=>⟨fun _=>trivial,wpAnyT_to f _ _ _ h'.2⟩) (h.2 i hi)⟩
theorem set_stays {i:Nat}{l:Array Bool}(h:l.getD k true=true):(l.setIfInBounds i true).getD k true=true:=by
 by_cases hi:i=k
 ·subst hi;rw[Array.getD_eq_getD_getElem?];by_cases hs:i<l.size
  ·simp[hs]
  ·rw[Array.getElem?_eq_none (by simpa using hs)];rfl
 ·rw[getD_set_ne true hi];exact h
theorem wpAnyT_off (hk:k∈n):∀(f:Nat) (listed:Array Bool) (a:Act) (w:World),listed.getD k true=true→wpAnyT P md ops Q (fun _=>True) n' f listed a w→wpAnyT P md ops Q S n f listed a w
 |0,_,_,_,_,h=>h
 |f+1,_,_,_,hl,h=>⟨h.1,fun i hi=>wpOp_mono (fun _ _ h'=>⟨fun e=>absurd (e k hk) (by rw[set_stays hl];decide),wpAnyT_off hk f _ _ _ (set_stays hl) h'.2⟩) (h.2 i hi)⟩
end
theorem strs_reads {l:List Bts}(h:StrsOwn w b v l):∃A c,v= .slice A l.length c∧Reads w w.heap.size 1 A l.length (l.map strV):=by
 obtain⟨A,c,rfl⟩:=own_form h;exact⟨A,c,rfl,Reads.of_own h⟩
theorem num_SameTexts {l:List Bts}{A A':Option Addr}{c c' B B':Nat}(h:Reads w B 1 A l.length (l.map strV))(h':Reads w B' 1 A' l.length (l.map strV))(hn:l.length≤100000):
  Calls Tryz.prog 8 #[.slice A l.length c,.slice A' l.length c'] w fun y w'=>y= .returned (.bool true)∧w=w':=by
 have HA:=qd h;have HB:=qd h';clear h h';go_in;go_wp2;go_loopw [14] (fun v14 wr=>∃i:Nat,i≤l.length∧v14= .int .i64 (i:Int)∧w=wr) (fun v14 _=>l.length-(intOf v14).toNat)
 case atStart=>exact⟨0,by omega,rfl,rfl⟩
 case round=>
  obtain⟨i,hi,rfl,rfl⟩:=hrel;by_cases hlt:i<l.length
  ·have hlt':(i:Int)<(l.length:Int):=by omega
   have hi0:(0:Int)≤(i:Int):=by omega
   have hwi:IntKind.i64.wrap ((i:Int)+1)=((i+1:Nat):Int):=by rw[IntKind.wrap_i64];omega
   obtain⟨s,hs⟩:∃s,l[i]?=some s:=⟨_,List.getElem?_eq_getElem hlt⟩;obtain⟨g,off,hA,hgl,hc⟩:=HA.out.2 (by omega);obtain⟨g2,off2,hA2,hgl2,hc2⟩:=HB.out.2 (by omega);have r0:w.cell? ⟨g,off+i,none⟩=some (.string ⟨s.toArray⟩):=hc i _ (by rw[List.getElem?_map,hs];rfl);have r1:w.cell? ⟨g2,off2+i,none⟩=some (.string ⟨s.toArray⟩):=hc2 i _ (by rw[List.getElem?_map,hs];rfl);have HM:=qd (show l.length-(i+1)<l.length-i by omega);subst hA hA2;clear hc hc2 hs;go_wp2;go_roundw
   case measure=>simp[intOf];exact HM.out
   exact⟨i+1,by omega,rfl,by first|rfl|trivial⟩
  ·obtain rfl:i=l.length:=by omega
   have hlt':¬(l.length:Int)<(l.length:Int):=by omega
   go_wp2;go_ret;exact⟨rfl,rfl⟩
def words7:List Bts:=[[101,114,114,111,114,115],[102,111,117,110,100],[121,105,101,108,100,115],[108,101,110],[110,111,100,101,115],[104,101,108,100],[116,114,97,115,104]]
def lineN (x:Bts)(n:Int):Bts:=x++32::Lib.itoa n
def headC (cs:List Int)(i:Nat):List Bts:=(List.range i).map fun j=>lineN (names.getD (j+1) []) (cs.getD j 0)
def headN (ns:List Int)(i:Nat):List Bts:=(List.range i).map fun j=>lineN (words7.getD j []) (ns.getD j 0)
theorem headC_succ (cs:List Int)(i:Nat):headC cs (i+1)=headC cs i++[lineN (names.getD (i+1) []) (cs.getD i 0)]:=by unfold headC;rw[List.range_succ,List.map_append];rfl
theorem headN_succ (ns:List Int)(i:Nat):headN ns (i+1)=headN ns i++[lineN (words7.getD i []) (ns.getD i 0)]:=by unfold headN;rw[List.range_succ,List.map_append];rfl
def i64B (z:Int):Prop:= -9223372036854775808≤z∧z≤9223372036854775807
def intV (z:Int):Value:= .int .i64 z
theorem rwords_at (i:Nat)(W:World):Calls Tryz.prog 14 #[] W fun e w'=>e= .returned (.slice (some ⟨W.heap.size,0,none⟩) 9 9)∧(i<9→w'.cell? ⟨W.heap.size,i,none⟩=some (strV (names.getD i [])))∧Below W.heap.size W w':=by
 refine(ref_Words W).mono ?_;rintro e w' ⟨rfl,rfl⟩;refine⟨rfl,fun hi=> ?_,(Below.refl _ _).alloc (Nat.le_refl _) _⟩;have h:=(Blk.new W 9 ((names.map strV).toArray)).cell i;rw[h,List.getElem?_toArray,List.getElem?_map,List.getD_eq_getElem?_getD,List.getElem?_eq_getElem (by simpa[names]using hi)];rfl
theorem own_blk {w1 w':World}{g n:Nat}{t:TypeId}{v':Value}{xs:List Value}{cs:Array Value}(hB:Blk w1 g t cs)(hg:Grew w1 b v w' v')(ho:w1.ownsRow b 9 1 v n xs)(ht:t≠9):Blk w' g t cs:=
 hB.grown hg.by_ (fun e=>own_typ ho hB ht (by rw[←e];simp))
theorem index8 (c0 c1 c2 c3 c4 c5 c6 c7:Int)(i:Nat)(hi:i<8)(W:World):(Instr.index 24 (.agg #[.int .i64 c0,.int .i64 c1,.int .i64 c2,.int .i64 c3,.int .i64 c4,.int .i64 c5,.int .i64 c6,.int .i64 c7]) (.int .i64 (i:Int))).run Tryz.prog W= .ok (.int .i64 ([c0,c1,c2,c3,c4,c5,c6,c7].getD i 0)) W:=by
 have hi8:i=0∨i=1∨i=2∨i=3∨i=4∨i=5∨i=6∨i=7:=by omega
 rcases hi8 with rfl|rfl|rfl|rfl|rfl|rfl|rfl|rfl
 all_goals (show _=_;kernel_rfl)
theorem ref40_Heads (c0 c1 c2 c3 c4 c5 c6 c7 n0 n1 n2 n3 n4 n5 n6:Int)(hc:∀z∈[c0,c1,c2,c3,c4,c5,c6,c7],i64B z)(hn:∀z∈[n0,n1,n2,n3,n4,n5,n6],i64B z):
  Calls Tryz.prog 6 #[.agg #[.int .i64 c0,.int .i64 c1,.int .i64 c2,.int .i64 c3,.int .i64 c4,.int .i64 c5,.int .i64 c6,.int .i64 c7],.agg #[.int .i64 n0,.int .i64 n1,.int .i64 n2,.int .i64 n3,.int .i64 n4,.int .i64 n5,.int .i64 n6]] w fun y w'=>∃v,y= .returned v∧StrsOwn w' w.heap.size v (headC [c0,c1,c2,c3,c4,c5,c6,c7] 8++headN [n0,n1,n2,n3,n4,n5,n6] 7)∧Below w.heap.size w w':=by
 have HC:=qd hc;have HN:=qd hn;clear hc hn;have HCs:=qd (show∀i,i<8→i64B ([c0,c1,c2,c3,c4,c5,c6,c7].getD i 0)from fun i hi=>HC.out _ (by rw[List.getD_eq_getElem?_getD,List.getElem?_eq_getElem (by simpa using hi)];exact List.getElem_mem _));have HNs:=qd (show∀i,i<7→i64B ([n0,n1,n2,n3,n4,n5,n6].getD i 0)from fun i hi=>HN.out _ (by rw[List.getD_eq_getElem?_getD,List.getElem?_eq_getElem (by simpa using hi)];exact List.getElem_mem _));have HFi:=qd (fun(z:Int) (hz:i64B z) (W:World)=>num_FiguresAny z hz.1 hz.2 W);obtain⟨cs,hcs⟩:∃cs,cs=[c0,c1,c2,c3,c4,c5,c6,c7]:=⟨_,rfl⟩;obtain⟨ns,hns⟩:∃ns,ns=[n0,n1,n2,n3,n4,n5,n6]:=⟨_,rfl⟩;rw[←hcs]at HCs⊢;rw[←hns]at HNs⊢;have HCe:=qd hcs;have HNe:=qd hns;clear HC HN hcs hns;go_in;go_upto_region 3 with fail;refine nameW (F:=fun v=>Blk v (w.heap.size+1) 25 #[.int .i64 n0,.int .i64 n1,.int .i64 n2,.int .i64 n3,.int .i64 n4,.int .i64 n5,.int .i64 n6]∧StrsOwn v w.heap.size (.slice (some ⟨w.heap.size+1+1,0,none⟩) 0 0) (headC cs 0)∧Below w.heap.size w v) ⟨?_, ?_, ?_⟩ ?_
 ·have h1:=Blk.new (w.alloc (.cells #[.int .i64 c0,.int .i64 c1,.int .i64 c2,.int .i64 c3,.int .i64 c4,.int .i64 c5,.int .i64 c6,.int .i64 c7] 24)) 25 #[.int .i64 n0,.int .i64 n1,.int .i64 n2,.int .i64 n3,.int .i64 n4,.int .i64 n5,.int .i64 n6];rw[World.size_alloc]at h1;exact h1.alloc _
 ·have h:=World.ownsRow_made (base:=w.heap.size) (e:=9) (size:=1) ((w.alloc (.cells #[.int .i64 c0,.int .i64 c1,.int .i64 c2,.int .i64 c3,.int .i64 c4,.int .i64 c5,.int .i64 c6,.int .i64 c7] 24)).alloc (.cells #[.int .i64 n0,.int .i64 n1,.int .i64 n2,.int .i64 n3,.int .i64 n4,.int .i64 n5,.int .i64 n6] 25)) #[] 0 (by simp;omega) (by simp[maxLen]) (by simp);simp only[World.size_alloc]at h;exact h
 ·exact(((Below.refl _ _).alloc (Nat.le_refl _) _).alloc (by simp) _).alloc (by simp;omega) _
 rintro w1 ⟨hB1,ho1,hb1⟩;obtain⟨bn,hbn⟩:∃bn,bn=w.heap.size+1:=⟨_,rfl⟩;have HBn:=qd (show w.heap.size<bn by omega);have HBl:=qd hb1;have HBk:=qd (show Blk w1 bn 25 #[.int .i64 n0,.int .i64 n1,.int .i64 n2,.int .i64 n3,.int .i64 n4,.int .i64 n5,.int .i64 n6] by rw[hbn];exact hB1);have HO:=qd ho1;rw[←hbn]at HO⊢;clear hB1 ho1 hb1 hbn;go_wp2;go_loopw [5,12] (fun v5 v12 wr=>∃i:Nat,i≤8∧v12= .int .i64 (i:Int)∧Hid (StrsOwn wr w.heap.size v5 (headC cs i))∧Hid (Blk wr bn 25 #[.int .i64 n0,.int .i64 n1,.int .i64 n2,.int .i64 n3,.int .i64 n4,.int .i64 n5,.int .i64 n6])∧Hid (Below w.heap.size w wr)) (fun _ v12 _=>8-(intOf v12).toNat)
 case atStart=>exact⟨0,by omega,rfl,HO,HBk,HBl⟩
 case round=>
  clear HO HBk HBl;obtain⟨i,hi,rfl,HO,HBk,HBl⟩:=hrel;obtain⟨A5,k5,hv5⟩:=own_form HO.out;subst hv5;by_cases hlt:i<8
  ·have hlt':(i:Int)<8:=by omega
   have hi0:(0:Int)≤(i:Int):=by omega
   have hwi:IntKind.i64.wrap ((i:Int)+1)=((i+1:Nat):Int):=by rw[IntKind.wrap_i64];omega
   obtain⟨z,hz⟩:∃z,z=cs.getD i 0:=⟨_,rfl⟩;have HZ:=qd (show i64B z from hz▸HCs.out i hlt);have HZe:=qd hz
   have hix:∀W,(Instr.index 24 (.agg #[.int .i64 c0,.int .i64 c1,.int .i64 c2,.int .i64 c3,.int .i64 c4,.int .i64 c5,.int .i64 c6,.int .i64 c7]) (.int .i64 (i:Int))).run Tryz.prog W= .ok (.int .i64 z) W:=fun W=>by rw[hz,HCe.out];exact index8 c0 c1 c2 c3 c4 c5 c6 c7 i hlt W
   clear hz;obtain⟨m,hm⟩:∃m,m=i+1:=⟨_,rfl⟩
   have hm9:(m:Int)<9:=by omega
   have hm9n:m<9:=by omega
   have hm9l:(m:Int)≤9:=by omega
   have hm0:(0:Int)≤(m:Int):=by omega
   have hwm:IntKind.i64.wrap ((i:Int)+1)=(m:Int):=by rw[hm];exact hwi
   have Hm:=qd hm;obtain⟨sn,hsn⟩:∃s:ByteArray,s=⟨(names.getD (i+1) []).toArray⟩:=⟨_,rfl⟩;obtain⟨sf,hsf⟩:∃s:ByteArray,s=⟨(Lib.itoa z).toArray⟩:=⟨_,rfl⟩;have HW:=qd (fun(W:World)=>show Calls Tryz.prog 14 #[] W (fun e w'=>e= .returned (.slice (some ⟨W.heap.size,0,none⟩) 9 9)∧w'.cell? ⟨W.heap.size,m,none⟩=some (.string sn)∧Below W.heap.size W w')from(rwords_at (i+1) W).mono fun e w' ⟨a,b,c⟩=>⟨a,by have:=b (by omega);rw[hm,this,hsn];rfl,c⟩);have HF:=qd (fun(W:World)=>show Calls Tryz.prog 15 #[.int .i64 z] W (fun e w'=>e= .returned (.string sf)∧Below W.heap.size W w')from by have h:=HFi.out z HZ.out W;unfold strV at h;rw[←hsf]at h;exact h)
   have z1:sn.size≤20:=by
    rw[hsn]
    have hi8:i=0∨i=1∨i=2∨i=3∨i=4∨i=5∨i=6∨i=7:=by omega
    rcases hi8 with rfl|rfl|rfl|rfl|rfl|rfl|rfl|rfl<;>decide
   have z2:sf.size≤21:=by rw[hsf];exact sz (Lib.itoa_length_le z HZ.out.1 HZ.out.2)
   have q1:¬9223372036854775807<sn.size+1:=by omega
   have q2:¬9223372036854775807<sn.size+1+sf.size:=by omega
   have HLn:=qd (show Value.string (sn++⟨#[32]⟩++sf)=strV (lineN (names.getD (i+1) []) (cs.getD i 0))from by
    rw[hsn,hsf,←HZe.out];unfold strV lineN;congr 1;apply ByteArray.ext
    simp[ByteArray.data_append])
   have hlen:(headC cs i).length=i:=by unfold headC;simp
   have hown:wr.ownsRow w.heap.size 9 1 (.slice A5 (headC cs i).length k5) (headC cs i).length ((headC cs i).map strV):=HO.out;rw[hlen]at hown⊢;have hbel:=HBl.out;have hbk:=HBk.out;clear HO HBl HBk hsn hsf;go_upto_region 5 with fail;clear hix hwi hm
   have hne7:25 ≠9 :=by decide
   refine rT (fun(_:World)=>True) [9] ?_;have hHeld:(fun(_:World)=>True) (World.drew wr):=trivial;refine vW 0 rfl ?_;refine vW 2 rfl ?_;refine vW 3 rfl ?_;refine vW 7 rfl ?_;refine nT 1 rfl fun K hK=> ?_;rw[if_pos (by kernel_rfl)];go_wp2_with fail;refine(HW.out _).mono ?_;rintro e w3 ⟨rfl,hwc,hbc⟩
   (try dsimp only[World.drew]at hwc)
   have hown:w3.ownsRow w.heap.size 9 1 (.slice A5 i k5) i ((headC cs i).map strV):=(by first|exact own_below hown hbc (Nat.le_refl _)|exact own_below (World.ownsRow.drew hown) hbc (Nat.le_refl _));have hbk:Blk w3 bn 25 #[.int .i64 n0,.int .i64 n1,.int .i64 n2,.int .i64 n3,.int .i64 n4,.int .i64 n5,.int .i64 n6]:=(by first|exact hbk.below hbc hbk.lt|exact hbk.drew.below hbc hbk.drew.lt);have hbel:Below w.heap.size w w3:=(by first|exact hbel.trans (hbc.mono hbel.size)|exact hbel.drew.trans (hbc.mono hbel.size));clear hbc;go_wp2_with fail;refine kO hK ?_;clear hK K;refine wpAnyT_to (S':=fun(w':World)=>w'.cell? ⟨wr.heap.size,m,none⟩=some (.string sn)) (n':=[9]) _ _ _ _ ?_;clear hHeld;have hHeld:=hwc;refine vW 4 rfl ?_;refine vT 5 rfl ?_;refine vW 6 rfl ?_;refine nT 8 rfl fun K hK=> ?_;rw[if_pos (by kernel_rfl)];go_wp2_with fail;refine(HF.out _).mono ?_;rintro e w4 ⟨rfl,hbc⟩;have hwc:=cell_call hbc hwc;have hown:w4.ownsRow w.heap.size 9 1 (.slice A5 i k5) i ((headC cs i).map strV):=(by first|exact own_below hown hbc (Nat.le_refl _)|exact own_below (World.ownsRow.drew hown) hbc (Nat.le_refl _));have hbk:Blk w4 bn 25 #[.int .i64 n0,.int .i64 n1,.int .i64 n2,.int .i64 n3,.int .i64 n4,.int .i64 n5,.int .i64 n6]:=(by first|exact hbk.below hbc hbk.lt|exact hbk.drew.below hbc hbk.drew.lt);have hbel:Below w.heap.size w w4:=(by first|exact hbel.trans (hbc.mono hbel.size)|exact hbel.drew.trans (hbc.mono hbel.size));clear hbc;go_wp2_with fail
   have hHeld:=hwc;refine kO hK ?_;clear hK K;refine nT 9 rfl fun K hK=> ?_;rw[if_pos (by kernel_rfl)];go_wp2_with fail;refine kO hK ?_;clear hK K;refine wpAnyT_off (n':=[]) (k:=9) (by simp) _ _ _ _ (by kernel_rfl) ?_;clear hHeld;have hHeld:(fun(_:World)=>True) w4:=trivial;refine nT 10 rfl fun K hK=> ?_;rw[if_pos (by kernel_rfl)];go_wp2_with fail;refine kO hK ?_;clear hK K;refine nT 11 rfl fun K hK=> ?_;apply step_appendm (hT:=slty_strs) (hown:=hown) (cs:= #[.string (sn++⟨#[32]⟩++sf)]) (m:=1)
   case ho=>rfl
   case hgd=>rfl
   case hs=>rfl
   case hx=>rfl
   case hg0=>rfl
   case hl=>rfl
   case h1'=>rfl
   case hm=>decide
   case hn=>omega
   case hbase=>exact hbel.size
   intro v4 w5 hown4 hgr;have hbk:=own_blk hbk hgr hown hne7;refine kO hK ?_;clear hK K;refine vW 12 rfl ?_;refine doneT (by kernel_rfl) ?_ _
   all_goals
    have HO4:=qd (show StrsOwn w5 w.heap.size v4 (headC cs m)from by
     unfold StrsOwn;rw[Hm.out,headC_succ,List.length_append,hlen,List.map_append];have h:=hown4;simp only[HLn.out]at h
     exact h)
    have HB4:=qd (hbel.trans hgr.below);have HK4:=qd hbk;have HM:=qd (show 8-m<8-i by have:=Hm.out;omega)
    have hm8:m≤8:=by have:=Hm.out;omega
    clear hown4 hgr hbk hbel hown;go_wp2;go_roundw
    case measure=>simp[intOf];exact HM.out
    exact⟨m,hm8,rfl,HO4,HK4,HB4⟩
  ·obtain rfl:i=8:=by omega
   have hlt':¬((8:Nat):Int)<8:=by omega
   clear hlt hi;have HOw:=qd HO.out;have HBw:=qd HBl.out;have HKw:=qd HBk.out
   have hlen8:(headC cs 8).length=8:=by unfold headC;simp
   clear HO HBl HBk;go_upto_region 8 with fail;refine nameW (F:=fun v=>Blk v wr.heap.size 9 (words7.map strV).toArray∧Below wr.heap.size wr v) ⟨Blk.new wr 9 _,(Below.refl _ _).alloc (Nat.le_refl _) _⟩ ?_;rintro w2 ⟨hW2,hb2⟩;obtain⟨bw,hbw⟩:∃bw,bw=wr.heap.size:=⟨_,rfl⟩;have HBe:=qd hbw
   have HO:=qd (show StrsOwn w2 w.heap.size (.slice A5 (headC cs 8).length k5) (headC cs 8++headN ns 0)from by
    rw[show headC cs 8++headN ns 0=headC cs 8 from by simp[headN]]
    exact own_below HOw.out hb2 (Nat.le_refl _))
   have HBk:=qd (HKw.out.below hb2 HKw.out.lt);have HBl:=qd (HBw.out.trans (hb2.mono HBw.out.size));rw[←hbw]at hW2⊢;have HWk:=qd hW2;have HApart:=qd (show∀(v:World) (x:Value) (l:List Bts),StrsOwn v w.heap.size x l→True from fun _ _ _ _=>trivial);have HOa:=qd (fun(h:some bw=(Value.slice A5 (headC cs 8).length k5).ownBlock)=>show False from by have h1:=HOw.out.lt bw h.symm;rw[HBe.out]at h1;exact Nat.lt_irrefl _ h1.2);clear hW2 hb2 hbw HOw HBw HKw HApart;go_wp2;go_loopw [5,31] (fun v5 v31 wr=>∃j:Nat,j≤7∧v31= .int .i64 (j:Int)∧Hid (StrsOwn wr w.heap.size v5 (headC cs 8++headN ns j))∧Hid (some bw≠v5.ownBlock)∧Hid (Blk wr bw 9 (words7.map strV).toArray)∧Hid (Blk wr bn 25 #[.int .i64 n0,.int .i64 n1,.int .i64 n2,.int .i64 n3,.int .i64 n4,.int .i64 n5,.int .i64 n6])∧Hid (Below w.heap.size w wr)) (fun _ v31 _=>7-(intOf v31).toNat)
   case atStart=>exact⟨0,by omega,rfl,HO,qd (fun h=>HOa.out h),HWk,HBk,HBl⟩
   case round=>
    clear HO HBk HBl HWk HOa;obtain⟨j,hj,rfl,HO,HOa,HWk,HBk,HBl⟩:=hrel;obtain⟨A6,k6,hv6⟩:=own_form HO.out;subst hv6
    have hlj:(headC cs 8++headN ns j).length=8+j:=by rw[List.length_append,hlen8];unfold headN;simp
    by_cases hlt:j<7
    ·have hlt':(j:Int)<7:=by omega
     have hj0:(0:Int)≤(j:Int):=by omega
     have hj7:(j:Int)≤7:=by omega
     have hwj:IntKind.i64.wrap ((j:Int)+1)=((j+1:Nat):Int):=by rw[IntKind.wrap_i64];omega
     obtain⟨z,hz⟩:∃z,z=ns.getD j 0:=⟨_,rfl⟩;have HZ:=qd (show i64B z from hz▸HNs.out j hlt);obtain⟨sn,hsn⟩:∃s:ByteArray,s=⟨(words7.getD j []).toArray⟩:=⟨_,rfl⟩;obtain⟨sf,hsf⟩:∃s:ByteArray,s=⟨(Lib.itoa z).toArray⟩:=⟨_,rfl⟩;have HF:=qd (fun(W:World)=>show Calls Tryz.prog 15 #[.int .i64 z] W (fun e w'=>e= .returned (.string sf)∧Below W.heap.size W w')from by have h:=HFi.out z HZ.out W;unfold strV at h;rw[←hsf]at h;exact h)
     have hj8:j=0∨j=1∨j=2∨j=3∨j=4∨j=5∨j=6:=by omega
     have r0:wr.cell? ⟨bw,j,none⟩=some (.string sn):=by
      rw[HWk.out.cell j,hsn]
      rcases hj8 with rfl|rfl|rfl|rfl|rfl|rfl|rfl<;>rfl
     have r1:wr.cell? ⟨bn,j,none⟩=some (.int .i64 z):=by
      rw[HBk.out.cell j,hz,HNe.out]
      rcases hj8 with rfl|rfl|rfl|rfl|rfl|rfl|rfl<;>rfl
     have z1:sn.size≤20:=by
      rw[hsn]
      rcases hj8 with rfl|rfl|rfl|rfl|rfl|rfl|rfl<;>decide
     have z2:sf.size≤21:=by rw[hsf];exact sz (Lib.itoa_length_le z HZ.out.1 HZ.out.2)
     have q1:¬9223372036854775807<sn.size+1:=by omega
     have q2:¬9223372036854775807<sn.size+1+sf.size:=by omega
     have HLn:=qd (show Value.string (sn++⟨#[32]⟩++sf)=strV (lineN (words7.getD j []) (ns.getD j 0))from by
      rw[hsn,hsf,hz];unfold strV lineN;congr 1;apply ByteArray.ext
      simp[ByteArray.data_append])
     have HM:=qd (show 6-j<7-j by omega);clear hsn hsf hz hj8;go_wp2_with fail;refine(HF.out _).mono ?_;rintro y w5 ⟨rfl,hb5⟩;have hown:=own_below HO.out hb5 (Nat.le_refl _);have HBq:=qd (HBl.out.trans (hb5.mono HBl.out.size));have HKq:=qd (HBk.out.below hb5 HBk.out.lt);have HWq:=qd (HWk.out.below hb5 HWk.out.lt);have hbs:=HBq.out.size;rw[hlj]at hown HOa⊢;clear hb5 HO HBl HBk HWk r0 r1;go_wp2_with (at_builtin;refine wpList_append1 rfl rfl slty_strs hown rfl rfl rfl rfl rfl (by omega) (by omega) ?_;intro v9 w9 ho9 hg9)
     have HO9:=qd (show StrsOwn w9 w.heap.size v9 (headC cs 8++headN ns (j+1))from by
      unfold StrsOwn;rw[headN_succ,←List.append_assoc,List.length_append,hlj,List.map_append];have h:=ho9;simp only[HLn.out]at h
      exact h)
     have HB9:=qd (HBq.out.trans hg9.below);have HK9:=qd (own_blk HKq.out hg9 hown (by decide));have HW9:=qd (HWq.out.grown hg9.by_ HOa.out)
     have HA9:=qd (show some bw≠v9.ownBlock from fun h=>by
      rcases hg9.at_ with k|⟨g,k,hk⟩
      ·exact HOa.out (by rw[h,k])
      ·rw[k]at h
       have e:bw=g:=by injection h
       have:=HWq.out.lt
       omega)
     clear ho9 hg9 hown HBq HKq HWq HOa;go_wp2;go_roundw
     case measure=>simp[intOf];exact HM.out
     exact⟨j+1,by omega,rfl,HO9,HA9,HW9,HK9,HB9⟩
    ·obtain rfl:j=7:=by omega
     have hlt':¬((7:Nat):Int)<7:=by omega
     go_wp2;go_ret;exact⟨_,rfl,HO.out,HBl.out⟩
end
end Go.Proofs.YtfbljmcjadfkoaaGreatDoor
