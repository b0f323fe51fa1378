/- words.fine and words.Split by their contracts: line by line, as goSplit. -/
import Derived.Test.YtgiaobmcbbfmnaaGreatDoorBuilder
import Derived.Test.YtgiaobmcbbfmnaaGreatDoorSq
import Derived.Test.YtgiaobmcbbfmnaaGreatDoorErrs
import Derived.Test.YtgiaobmcbbfmnaaGreatDoorShelf
import Derived.Lib.SplitLaws
import Derived.WalkKit
import Derived.WalkSpells
import Derived.WalkLawsBesides
import Derived.Outline
import Derived.Deep.QuietTactic
import Derived.BigQuiet
import Derived.Test.YtgiaobmcbbfmnaaGreatDoorSqT
import Derived.Test.YtgiaobmcbbfmnaaGreatDoorDecP
import Derived.Deep.RegionWith
import Derived.Laws.IdiomStrings
import Derived.Lib.Walk
import Derived.Lib.AtoiErrMem
import Derived.Lib.ParseIntBMem
import Derived.Laws.Strings3
import Derived.Laws.Closers25
import Derived.BigCall
import Derived.BigGuard
namespace Go.Proofs.YtgiaobmcbbfmnaaGreatDoor
set_option maxRecDepth 100000
set_option maxHeartbeats 16000000
open Go.RowKit jY EP
theorem Tz (l:(List UInt8))(k:Nat)(h:k<l.length):jP (l.take (k+1))=(jP (l.take k) && rY l[k]):=by
 unfold jP;rw[List.take_succ_eq_append_getElem h,List.all_append];simp
theorem KM (b:UInt8):rY b=true↔¬((b.toNat:Int)<32)∧¬(126:Int)<(b.toNat:Int):=by
 unfold rY;have e1:(32:UInt8).toNat=32:=rfl;have e2:(126:UInt8).toNat=126:=rfl;simp only[Bool.and_eq_true,decide_eq_true_eq,UInt8.le_iff_toNat_le];omega
theorem IG (s:ByteArray)(w:World)(hs:s.size≤70000):
  Calls Tryz.prog 49 #[.string s] w fun e w'=>e= .returned (.bool (jP s.data.toList))∧Below w.heap.size w w':=by
 have hlen:s.data.toList.length=s.size:=by simp
 obtain⟨c,W,SB,hB,hlt,hcell⟩:=wQ (P:=Tryz.prog) w 9 67 5 s Tryz.underlying9 Tryz.underlying67 Tryz.underlying5;have HC:=qd hcell;clear hcell;go_in;go_wp2;go_loop [4,8] (fun _ i=>∃k:Nat,k≤s.size∧i= .int .i64 k∧jP (s.data.toList.take k)=true) (fun _ i=>s.size-(intOf i).toNat)
 case atStart=>exact⟨0,by omega,rfl,rfl⟩
 case round=>
  obtain⟨k,hk,rfl,hf⟩:=hrel;by_cases hkl:k<s.size
  ·have hc:=HC.out k hkl;have ht:=Tz s.data.toList k (by omega);have hg:s.data.toList[k]'(by omega)=s[k]:=rfl;rw[hf,Bool.true_and,hg]at ht;have Ht:=qd ht;have Hf:=qd hf;clear ht hf hg
   cases hfc:rY s[k]with
   |true=>
    have lN:=(KM _).1 hfc;have b1:=lN.1;have b2:=lN.2;have Hfc:=qd hfc;clear hfc lN;go_wp2;go_round
    case rel=>exact⟨k+1,by omega,by go_num,by rw[Ht.out];exact Hfc.out⟩
    case measure=>simp[intOf];omega
   |false=>
    have hres:jP s.data.toList=false:=by
     have h2:jP (s.data.toList.take (k+1))=false:=by rw[Ht.out];exact hfc
     unfold jP at h2⊢;rw[List.all_eq_false]at h2⊢;obtain⟨x,hx,hx2⟩:=h2;exact⟨x,List.mem_of_mem_take hx,hx2⟩
    have hn:((s[k]).toNat:Int)<32∨(126:Int)<((s[k]).toNat:Int):=by
     by_cases h:((s[k]).toNat:Int)<32
     ·exact .inl h
     ·refine .inr (Int.lt_of_not_ge fun h2=> ?_);have:=(KM s[k]).2 ⟨by omega,by omega⟩;rw[this]at hfc;cases hfc
    have acf:=qd hres;clear hres hfc;rcases hn with hn|hn
    ·go_wp2;go_ret;exact⟨fH acf.out.symm,hB⟩
    ·have hn':¬((s[k]).toNat:Int)<32:=by omega
     go_wp2;go_ret;exact⟨fH acf.out.symm,hB⟩
  ·have hfl:jP s.data.toList=true:=by rwa [List.take_of_length_le (by omega)]at hf
   have II:=qd hfl;clear hfl hf;go_wp2;go_ret;exact⟨fH II.out.symm,hB⟩
section
variable {l : (List UInt8)} {E : Nat → Addr} {w w' : World}
def uS (l:(List UInt8))(b:ByteArray):Prop:=b.data.toList=l
theorem zh (s:ByteArray)(w:World)(hs:s.size≤70000)(hl:uS l s)(h:jP l=true):
  Calls Tryz.prog 49 #[.string s] w fun e w'=>e= .returned (.bool true)∧Below w.heap.size w w':=(IG s w hs).mono fun _ _ ⟨he,hb⟩=>⟨by unfold uS at hl;rw[he,hl,h],hb⟩
theorem Gj (s:ByteArray)(w:World)(hs:s.size≤70000)(hl:uS l s)(h:jP l=false):
  Calls Tryz.prog 49 #[.string s] w fun e w'=>e= .returned (.bool false)∧Below w.heap.size w w':=(IG s w hs).mono fun _ _ ⟨he,hb⟩=>⟨by unfold uS at hl;rw[he,hl,h],hb⟩
def abp (w:World)(l:(List UInt8))(e:Ending)(w':World):Prop:=∃(b:ByteArray) (r2:Value) (r3:Bool) (n:Nat),uS l b∧e= .returned (.tuple #[.string b,r2,.bool r3])∧w.drewN n=w'
theorem VY (s:ByteArray)(m:Int)(w:World)(hs:s.size<4294967281)(hm:w.cell? ⟨18,0,none⟩=some (.int .i64 m)):
  Calls Tryz.prog 48 #[.string s,.string ⟨#[35]⟩] w (abp w (body s.data.toList)):=
 (Tryz.strings_Cut s ⟨#[35]⟩ m w hs hm).mono fun e w' ⟨he,n,hn⟩=>⟨_,_,_,n,by unfold uS;rw[←XK],he,hn.symm⟩
theorem Du (b:ByteArray)(l:(List UInt8))(w:World)(hb:uS l b)(hs:b.size<4294967281)(hf:jP l=true)(htab:Lib.TabIs Tryz.prog w "strings.asciiSpace" .u8 Lib.asciiSpaceTab):
  Calls Tryz.prog 50 #[.string b] w fun e w'=>e= .returned (.slice (some ⟨w.heap.size,0,none⟩) (Lib.fields l).length (Lib.fields l).length)∧w.alloc (.cells ((Lib.fields l).map fO).toArray 9)=w':=by
 unfold uS at hb;subst hb;exact(Tryz.strings_Fields b w hs (fun j x hx=>Sw hf j x hx) htab).mono fun e w' ⟨he,hw⟩=>⟨he,hw.symm⟩
structure fQ (E:Nat→Addr)(w:World):Prop where
 e3:dP E w 3
 e9:dP E w 9
 max:∃m,w.cell? ⟨18,0,none⟩=some (.int .i64 m)
 tab:Lib.TabIs Tryz.prog w "strings.asciiSpace" .u8 Lib.asciiSpaceTab
theorem acg:Tryz.prog.globalNamed "strings.asciiSpace" =some 16 :=by kernel_rfl
theorem fQ.of_block (h:fQ E w)(hb:∀k,k<w.heap.size→w'.heap[k]?=w.heap[k]?):fQ E w':=by
 refine⟨h.e3.of_block hb,h.e9.of_block hb, ?_, ?_⟩
 ·obtain⟨m,hm⟩:=h.max;exact⟨m,(World.cell?_of_block (hb _ (World.block_lt_of_cell? w _ hm))).trans hm⟩
 ·have:=h.tab;unfold Lib.TabIs World.var? at this⊢;simp only[acg,Option.bind_some]at this⊢
  have hlt:16 <w.heap.size:=by
   rcases Nat.lt_or_ge 16 w.heap.size with h1|h1
   ·exact h1
   ·simp[Array.getElem?_eq_none h1]at this
  rw[hb _ hlt];exact this
theorem fQ.below {B:Nat}(h:fQ E w)(hb:Below B w w')(hB:w.heap.size≤B):fQ E w':=h.of_block fun k hk=>hb.block k (by omega)
theorem fQ.alloc (h:fQ E w)(o:Obj):fQ E (w.alloc o):=h.of_block fun k hk=>Below.heap_alloc w o k hk
theorem fQ.drewN (h:fQ E w)(n:Nat):fQ E (w.drewN n):=h.of_block fun _ _=>rfl
def VZ (E:Nat→Addr)(w:World)(r:Ke)(e:Ending)(w':World):Prop:=
 match r with
 | .bad n=>e= .returned (.tuple #[.slice none 0 0,.int .i64 (n:Int),.iface 379 (.pointer (some (E 3)))])∧Below w.heap.size w w'
 | .ok l=>∃v,e= .returned (.tuple #[v,.int .i64 0,.nilIface])∧dU w' w.heap.size v l∧Below w.heap.size w w'
end
section
variable {w : World} {base : Nat} {v : Value} {L : List (Nat × List gQ)}
structure abq (E:Nat→Addr)(w W0:World)(s:ByteArray)(R:Ke)(k:Nat)(acc:List (Nat×List (List UInt8)))(v:Value)(wr:World):Prop where
 res:lW acc (k+1) ((lines s.data.toList).drop k)=R
 own:dU wr (w.heap.size+1) v acc
 below:Below (w.heap.size+1) W0 wr
 len:acc.length≤k
theorem Gl {l:(List UInt8)}{b:ByteArray}(hb:uS l b)(hl:l.length≤60000):b.size≤70000:=by
 have:b.data.toList.length=b.size:=by simp
 unfold uS at hb;rw[hb]at this;omega
theorem zH {W0 wr w2:World}{B B':Nat}(_h0:Below B w W0)(h:Below B' W0 wr){nq:Nat}(h2:Below (wr.drewN nq).heap.size (wr.drewN nq) w2)(hB:B'≤W0.heap.size)(_n:Nat):Below B' W0 w2:=
 (below_drewN h nq).trans (h2.mono (Nat.le_trans hB h.size))
theorem Fp (h:dU w base v L)(o:Obj):dU (w.alloc o) base v L:=
 h.below (B:=w.heap.size) ((Below.refl _ _).alloc (Nat.le_refl _) o) (Nat.le_refl _)
theorem Fq (h:dU w base v L)(n:Nat):dU (w.drewN n) base v L:=
 h.below (B:=w.heap.size) (below_drewN (Below.refl _ _) n) (Nat.le_refl _)
theorem Ot (h:dU w base v L)(hb:base≤w.heap.size)(r:List gQ)(hr:r.length≤60000):
  dO (w.alloc (.cells (r.map fO).toArray 9)) base (.slice (some ⟨w.heap.size,0,none⟩) r.length r.length) r∧dU (w.alloc (.cells (r.map fO).toArray 9)) base v L:=by
 refine⟨?_,Fp h _⟩;have:=World.ownsRow_lit (base:=base) (e:=9) (size:=1) w (r.map fO).toArray r.length hb (by simp only[maxLen];omega) (by simp);unfold dO;simpa using this
theorem add_pos {acc:List (Nat×List (List UInt8))}{n:Nat}{row:List (List UInt8)}(h:row≠[]):add acc n row=acc++[(n,row)]:=by unfold add;rw[if_neg h]
theorem add_zero (acc:List (Nat×List (List UInt8)))(n:Nat):add acc n []=acc:=rfl
theorem EK {E:Nat→Addr}(s:ByteArray)(w:World)(hs:s.size≤60000)(hE:fQ E w):
  Calls Tryz.prog 22 #[.string s] w (VZ E w (lW [] 1 (lines s.data.toList))):=by
 obtain⟨m,hm⟩:=hE.max;have hsp:=Tryz.strings_Split s ⟨#[10]⟩ m w (by omega) hm (by decide);have hpl:((Lib.splitB ⟨#[10]⟩ 0 (Lib.countB s ⟨#[10]⟩) s).map (·.data.toList))=lines s.data.toList:=Qu s;have hlen:=G6 s.data.toList
 have hsl:s.data.toList.length=s.size:=by simp
 have hN:(Lib.splitB ⟨#[10]⟩ 0 (Lib.countB s ⟨#[10]⟩) s).length=Lib.countB s ⟨#[10]⟩+1:=Lib.splitB_all ⟨#[10]⟩ (by decide) 0 _ s rfl;generalize hps:Lib.splitB ⟨#[10]⟩ 0 (Lib.countB s ⟨#[10]⟩) s=ps at*;generalize hcn:Lib.countB s ⟨#[10]⟩+1=N at*;clear hps hcn
 have Ry:(lines s.data.toList).length=N:=by rw[←hpl,List.length_map,hN]
 generalize hRR:lW [] 1 (lines s.data.toList)=R;have HR:=qd hRR;clear hRR;obtain⟨W0,hW0⟩:∃W0,W0=w.alloc (.cells (ps.map Value.string).toArray 9):=⟨_,rfl⟩
 have hE0:fQ E W0:=by rw[hW0];exact hE.alloc _
 have hb0:Below w.heap.size w W0:=by rw[hW0];exact(Below.refl _ _).alloc (Nat.le_refl _) _
 have hz0:W0.heap.size=w.heap.size+1:=by rw[hW0];simp
 have hcell:∀k (hk:k<N),∃p:ByteArray,W0.cell? ⟨w.heap.size,k,none⟩=some (.string p)∧(lines s.data.toList)[k]?=some p.data.toList:=by
  intro k hk
  have hkp:k<ps.length:=by omega
  refine⟨ps[k], ?_, ?_⟩
  ·rw[hW0,(aj.new w 9 (ps.map Value.string).toArray).cell,List.getElem?_toArray,List.getElem?_map,List.getElem?_eq_getElem hkp];rfl
  ·rw[←hpl,List.getElem?_map,List.getElem?_eq_getElem hkp];rfl
 have zi:=qd hsp;have HW0:=qd hW0;have HC:=qd hcell;have HN:=qd Ry;have HPL:=qd hpl;have HZ:=qd hz0
 have hNs:N≤s.size+1:=by omega
 have hz1:W0.heap.size≤w.heap.size+1:=by omega
 have hz2:w.heap.size+1≤W0.heap.size:=by omega
 clear hsp hW0 hcell Ry hpl hz0 hm hN hlen hsl;go_in;go_wp2_with (go_at_call 47;refine zi.out.mono ?_;rintro e w' ⟨rfl,rfl⟩;rw[←HW0.out]);go_loopw [5,6,7,8,16] (fun v _ _ _ i wr=>∃(k:Nat) (acc:List (Nat×List (List UInt8))),k≤N∧i= .int .i64 k∧abq E w W0 s R k acc v wr) (fun _ _ _ _ i _=>N-(intOf i).toNat)
 case atStart=>exact⟨0,[],by omega,rfl,HR.out,dU.nil _ _,Below.refl _ _,by simp⟩
 case round=>
  obtain⟨k,acc,hk,rfl,h⟩:=hrel;by_cases hlt:k<N
  ·obtain⟨p,hp1,hp2⟩:=HC.out k hlt;have hc:wr.cell? ⟨w.heap.size,k,none⟩=some (.string p):=(h.below.cell (p:=⟨w.heap.size,k,none⟩) (by simp)).trans hp1;have hEr:fQ E wr:=hE0.below h.below hz1;have hpm:=U1 _ _ (List.mem_of_getElem? hp2)
   have hps:p.size≤60000:=by
    have:p.data.toList.length=p.size:=by simp
    have:s.data.toList.length=s.size:=by simp
    omega
   have hres:=h.res
   have hd:(lines s.data.toList).drop k=p.data.toList::(lines s.data.toList).drop (k+1):=by
    obtain⟨h1,h2⟩:=List.getElem?_eq_some_iff.1 hp2;rw[List.drop_eq_getElem_cons h1,h2]
   rw[hd,xH]at hres;have hbl:=Qv p.data.toList
   have adT:p.data.toList.length=p.size:=by simp
   obtain⟨m',hm'⟩:=hEr.max;have YU:=qd (VY p m' wr (by omega) hm')
   have YV:(body p.data.toList).length≤60000:=by omega
   generalize body p.data.toList=bd at*;clear hp1 hp2 hpm hd hm' hbl adT;have hown:=h.own;have hbel:=h.below;have hacc:=h.len;clear h
   cases hf:jP bd with
   |false=>
    rw[hf,if_neg (by simp)]at hres;have Gm:=qd hres;have HF:=qd hf;clear hres hf
    go_wp2_with (first
     |(go_at_call 48;refine YU.out.mono ?_;rintro e w1 ⟨b,r2,r3,nq,hb,rfl,rfl⟩;have hbs:=Gl hb YV)
     |(go_at_call 49;refine(Gj b _ hbs hb HF.out).mono ?_;rintro e w2 ⟨rfl,hb2⟩;have hE2:=(hEr.drewN nq).below hb2 (Nat.le_refl _);have h3:=hE2.e3;simp only[dP,gE]at h3;have hw2:=zH hb0 hbel hb2 hz2 nq))
    go_quiet (fail);go_wp2;go_ret3;rw[←Gm.out];exact⟨rfl,below_drewN (hb0.trans (hw2.mono (by omega))) _⟩
   |true=>
    rw[hf,if_pos rfl]at hres;have hfl:=FU bd;have HF:=qd hf;clear hf
    cases hfs:Lib.fields bd with
    |nil=>
     rw[hfs,add_zero]at hres;have Gm:=qd hres;have HFS:=qd hfs;clear hres hfs
     go_wp2_with (first
      |(go_at_call 48;refine YU.out.mono ?_;rintro e w1 ⟨b,r2,r3,nq,hb,rfl,rfl⟩;have hbs:=Gl hb YV)
      |(go_at_call 49;refine(zh b _ hbs hb HF.out).mono ?_;rintro e w2 ⟨rfl,hb2⟩;have hE2:=(hEr.drewN nq).below hb2 (Nat.le_refl _);have hw2:=zH hb0 hbel hb2 hz2 nq;have hown2:=(Fq hown nq).below hb2 (Nat.le_refl _))
      |(go_at_call 50;refine(Du b bd _ hb (by omega) HF.out hE2.tab).mono ?_;rw[HFS.out];rintro e w3 ⟨rfl,rfl⟩))
     go_roundw
     case rel=>exact⟨k+1,acc,by omega,by go_num,Gm.out,Fp hown2 _,hw2.alloc (Nat.le_trans hz2 hw2.size) _,by omega⟩
     case measure=>first|(simp[intOf];done)|(simp[intOf];omega)
    |cons f0 fr=>
     rw[hfs,add_pos (by simp)]at hres;have Gm:=qd hres;have HFS:=qd hfs
     have hpos:(0:Int)<((Lib.fields bd).length:Int):=by rw[hfs,List.length_cons];omega
     have adU:(Lib.fields bd).length≤60000:=by omega
     clear hres hfs
     go_wp2_with (first
      |(go_at_call 48;refine YU.out.mono ?_;rintro e w1 ⟨b,r2,r3,nq,hb,rfl,rfl⟩;have hbs:=Gl hb YV)
      |(go_at_call 49;refine(zh b _ hbs hb HF.out).mono ?_;rintro e w2 ⟨rfl,hb2⟩;have hE2:=(hEr.drewN nq).below hb2 (Nat.le_refl _);have hw2:=zH hb0 hbel hb2 hz2 nq;have hown2:=(Fq hown nq).below hb2 (Nat.le_refl _))
      |(go_at_call 50;refine(Du b bd _ hb (by omega) HF.out hE2.tab).mono ?_;rintro e w3 ⟨rfl,rfl⟩;have hz3:=Nat.le_trans hz2 hw2.size;have hw3:=hw2.alloc hz3 (.cells ((Lib.fields bd).map fO).toArray 9);have hF3:=Ot hown2 hz3 (Lib.fields bd) adU;obtain⟨hS3,vs,l1,l2,l3⟩:=hF3)
      |(at_builtin;refine iD rfl rfl Sy l1 rfl rfl (by simp) rfl rfl (by omega) (Nat.le_trans hz2 hw3.size) ?_;intro v4 w4 dh hg4;have hL4:=dU.push (n:=k+1) (r:=Lib.fields bd) l1 l2 l3 hS3 dh hg4;have hw4:=hw3.trans hg4.below;clear dh hg4))
     go_roundw
     case rel=>exact⟨k+1,acc++[(k+1,Lib.fields bd)],by omega,by go_num,by rw[←Gm.out,HFS.out],hL4,hw4,by simp;omega⟩
     case measure=>first|(simp[intOf];done)|(simp[intOf];omega)
  ·have hres:=h.res;rw[List.drop_eq_nil_of_le (by rw[HN.out];omega)]at hres;have hown:=(h.own).base (base':=w.heap.size) (by omega);have hbel:=hb0.trans (h.below.mono (by omega));have Gm:=qd hres;clear hres h;go_wp2;go_ret3;rw[←Gm.out];exact⟨_,rfl,hown,hbel⟩
end
section
variable {E : Nat → Addr} {w w' : World} {B : Nat} {v : Value}
structure uw (E:Nat→Addr)(w:World):Prop where
 words:fQ E w
 tz:w.cell? ⟨25,15,none⟩=some (.int .u8 4)
theorem uw.of_block (h:uw E w)(hb:∀k,k<w.heap.size→w'.heap[k]?=w.heap[k]?):uw E w':=
 ⟨h.words.of_block hb,(World.cell?_of_block (hb _ (World.block_lt_of_cell? w _ h.tz))).trans h.tz⟩
theorem uw.below (h:uw E w)(hb:Below B w w')(hB:w.heap.size≤B):uw E w':=h.of_block fun k hk=>hb.block k (by omega)
theorem uw.alloc (h:uw E w)(o:Obj):uw E (w.alloc o):=h.of_block fun k hk=>Below.heap_alloc w o k hk
theorem uw.drewN (h:uw E w)(n:Nat):uw E (w.drewN n):=h.of_block fun _ _=>rfl
structure nW (E:Nat→Addr)(w:World):Prop where
 lib:uw E w
 errs:eX E w
theorem nW.words (h:nW E w):fQ E w:=h.lib.words
theorem nW.of_block (h:nW E w)(hb:∀k,k<w.heap.size→w'.heap[k]?=w.heap[k]?):nW E w':=⟨h.lib.of_block hb,h.errs.of_block hb⟩
theorem nW.below (h:nW E w)(hb:Below B w w')(hB:w.heap.size≤B):nW E w':=h.of_block fun k hk=>hb.block k (by omega)
theorem nW.alloc (h:nW E w)(o:Obj):nW E (w.alloc o):=h.of_block fun k hk=>Below.heap_alloc w o k hk
theorem nW.drewN (h:nW E w)(n:Nat):nW E (w.drewN n):=h.of_block fun _ _=>rfl
theorem dU.at_ {base:Nat}{L:List (Nat×List gQ)}(h:dU w base v L){i:Nat}{p:Nat×List gQ}(hp:L[i]?=some p):
  ∃g c A c',v= .slice (some ⟨g,0,none⟩) L.length c∧g<w.heap.size∧w.cell? ⟨g,i*2,none⟩=some (.int .i64 (p.1:Int))∧w.cell? ⟨g,i*2+1,none⟩=some (.slice A p.2.length c')∧Reads w w.heap.size 1 A p.2.length (p.2.map fO):=by
 obtain⟨vs,h1,h2,h3⟩:=h;obtain⟨u,hu,hs⟩:=h3 i p hp;have hi:i<L.length:=(List.getElem?_eq_some_iff.1 hp).1;obtain⟨g,cap,rfl,hg,hlt⟩:=h1.form (by omega);obtain⟨A,c',rfl⟩:=bA hs;have hcells:=h1.cells (g:=g) rfl
 have hget:∀(L:List (Nat×List gQ)) (vs:List Value) (i:Nat) (p:Nat×List gQ) (u:Value),L[i]?=some p→vs[i]?=some u→(iP L vs)[i*2]?=some (.int .i64 (p.1:Int))∧(iP L vs)[i*2+1]?=some u:=by
  intro L
  induction L with
  |nil=>intro vs i p u h;simp at h
  |cons q L ih=>
   intro vs i p u hp hu
   cases vs with
   |nil=>simp at hu
   |cons y vs=>
    cases i with
    |zero=>
     simp only[List.getElem?_cons_zero,Option.some.injEq]at hp hu;subst hp;subst hu;simp[iP]
    |succ i=>
     simp only[List.getElem?_cons_succ]at hp hu;have:=ih vs i p u hp hu
     have e:iP (q::L) (y::vs)= .int .i64 (q.1:Int)::y::iP L vs:=by simp[iP]
     rw[e,show(i+1)*2=i*2+1+1 by omega];simpa using this
 obtain⟨c1,c2⟩:=hget L vs i p _ hp hu
 have hadd:∀j,(⟨g,0,none⟩:Addr).add j=⟨g,j,none⟩:=fun j=>by unfold Addr.add;split<;>simp_all
 have e1:=hcells _ _ c1;have e2:=hcells _ _ c2;rw[hadd]at e1 e2;exact⟨g,cap,A,c',rfl,hlt,e1,e2,Reads.eF hs⟩
def aeW:gQ:=[112,117,116,32,49,32,32,48,120,50,32,35,32,120]
def ae0:List gQ:=[[112,117,116],[49],[48,120,50]]
end
theorem YW {b c:UInt8}{k:Int}(h:b≠c)(hk:(c.toNat:Int)=k):((b.toNat:Int)==k)=false:=by
 rw[beq_eq_false_iff_ne];intro e;exact h (UInt8.toNat_inj.1 (by omega))
def Says (l:List UInt8)(b:ByteArray):Prop:=b.data.toList=l
def adV (w:World)(l:List UInt8)(e:Ending)(w':World):Prop:=∃b:ByteArray,Says l b∧e= .returned (.string b)∧Below w.heap.size w w'
def uy (h:Bool)(c:UInt8):Bool:=if h then jC c else iJ c
def nR (h:Bool)(l:List UInt8):Bool:=l.all (uy h)
def wB (h:Bool)(l:List UInt8):Bool:=nR h l && !l.isEmpty
theorem xZ {h:Bool}{l:List UInt8}(hf:nR h l=false):wB h l=false:=by rw[wB,hf];rfl
theorem abr {h:Bool}{s:ByteArray}(hf:nR h s.data.toList=true):wB h s.data.toList= !s.toList.isEmpty:=by rw[wB,hf,ByteArray.toList_eq];rfl
theorem V4 (h:Bool)(l:List UInt8)(k:Nat)(hk:k<l.length):nR h (l.take (k+1))=(nR h (l.take k) && uy h l[k]):=by
 unfold nR;rw[List.take_succ_eq_append_getElem hk,List.all_append];simp
theorem wC (s:ByteArray)(h:Bool)(w:World)(hs:s.size≤70000):
  Calls Tryz.prog 123 #[.string s,.bool h] w fun e w'=>e= .returned (.bool (wB h s.data.toList))∧Below w.heap.size w w':=by
 have hlen:s.data.toList.length=s.size:=by simp
 obtain⟨c,W,SB,hB,hlt,hcell⟩:=wQ (P:=Tryz.prog) w 9 67 5 s Tryz.underlying9 Tryz.underlying67 Tryz.underlying5;have HC:=qd hcell;clear hcell;go_in;go_wp2;go_loop [6,10] (fun _ i=>∃k:Nat,k≤s.size∧i= .int .i64 k∧nR h (s.data.toList.take k)=true) (fun _ i=>s.size-(intOf i).toNat)
 case atStart=>exact⟨0,by omega,rfl,rfl⟩
 case round=>
  obtain⟨k,hk,rfl,hf⟩:=hrel;by_cases hkl:k<s.size
  ·have hc:=HC.out k hkl;have ht:=V4 h s.data.toList k (by omega);have hg:s.data.toList[k]'(by omega)=s[k]:=rfl;rw[hf,Bool.true_and,hg]at ht
   have hfl:uy h s[k]=false→nR h s.data.toList=false:=fun hfc=>by
    have h2:nR h (s.data.toList.take (k+1))=false:=by rw[ht];exact hfc
    unfold nR at h2⊢;rw[List.all_eq_false]at h2⊢;obtain⟨x,hx,hx2⟩:=h2;exact⟨x,List.mem_of_mem_take hx,hx2⟩
   have Ht:=qd ht;have II:=qd hfl;clear ht hf hg hfl;generalize hcd:s[k]=cd at hc Ht II;have Hcd:=qd hcd;clear hcd;by_cases q1:(cd.toNat:Int)<48
   ·have hcase:h=true∨h=false:=by cases h<;>simp
    have q2:¬(57:Int)<(cd.toNat:Int):=by omega
    have q3:(cd.toNat:Int)<97:=by omega
    have HX:=qd (show nR h s.data.toList=false from II.out (by unfold uy jC iJ;cases h<;>simp<;>omega));rcases hcase with rfl|rfl
    ·go_wp2;go_ret;exact⟨fH (xZ HX.out).symm,hB⟩
    ·go_wp2;go_ret;exact⟨fH (xZ HX.out).symm,hB⟩
   ·by_cases q2:(57:Int)<(cd.toNat:Int)
    ·cases h with
     |false=>
      have HX:=qd (show nR false s.data.toList=false from II.out (by unfold uy iJ;simp;omega));go_wp2;go_ret;exact⟨fH (xZ HX.out).symm,hB⟩
     |true=>
      by_cases q3:(cd.toNat:Int)<97
      ·have HX:=qd (show nR true s.data.toList=false from II.out (by unfold uy jC iJ;simp;omega));go_wp2;go_ret;exact⟨fH (xZ HX.out).symm,hB⟩
      ·by_cases q4:(102:Int)<(cd.toNat:Int)
       ·have HX:=qd (show nR true s.data.toList=false from II.out (by unfold uy jC iJ;simp;omega));go_wp2;go_ret;exact⟨fH (xZ HX.out).symm,hB⟩
       ·have HX:=qd (show uy true cd=true from by unfold uy jC iJ;simp;omega);go_wp2;go_round
        case rel=>exact⟨k+1,by omega,by go_num,by rw[Ht.out];exact HX.out⟩
        case measure=>simp[intOf];omega
    ·have HX:=qd (show uy h cd=true from by unfold uy jC iJ;cases h<;>simp<;>omega);go_wp2;go_round
     case rel=>exact⟨k+1,by omega,by go_num,by rw[Ht.out];exact HX.out⟩
     case measure=>simp[intOf];omega
  ·have hfl:nR h s.data.toList=true:=by rwa [List.take_of_length_le (by omega)]at hf
   have II:=qd hfl;clear hfl hf;go_wp2;go_ret;exact⟨fH (abr II.out).symm,hB⟩
section
variable {acc d n : Nat} {T : TypeId} {r : Lib.NumEnd Nat} {c : UInt8}
def p16 (l:List UInt8):Lib.NumEnd Nat:=if l=[]then Lib.NumEnd.syntax else fP 0 l
theorem p16_hex {l:List UInt8}(h:hex l=some n):p16 l= .ok n:=by
 rw[p16,if_neg (FX h).1,Qx h]
def IJ (T:TypeId)(r:Lib.NumEnd Nat)(e:Ending):Prop:=e= .returned (Lib.uintTuple T r)
theorem zk (h:r=Lib.NumEnd.syntax):IJ T r (.returned (.tuple #[.int .u64 0,.iface T (.int .i64 2)])):=by subst h;rfl
theorem Fu (h:r= .range):IJ T r (.returned (.tuple #[.int .u64 18446744073709551615,.iface T (.int .i64 1)])):=by subst h;rfl
theorem YX (h:r= .ok n):IJ T r (.returned (.tuple #[.int .u64 n,.nilIface])):=by subst h;rfl
theorem Fv (h:zU c=none)(acc:Nat)(r:List UInt8):fP acc (c::r)=Lib.NumEnd.syntax:=by rw[fP,h]
theorem Cn (h:zU c=some d)(ha:1152921504606846976≤acc)(r:List UInt8):fP acc (c::r)= .range:=by rw[fP,h];simp only;rw[if_pos ha]
theorem Dv (h:zU c=some d)(ha:¬1152921504606846976≤acc)(r:List UInt8):fP acc (c::r)=fP (acc*16+d) r:=by rw[fP,h];simp only;rw[if_neg ha]
theorem Ou (t:ByteArray)(hne:t.size≠0)(hmax:t.size≤70000)(w:World):
  Calls Tryz.prog 185 #[.string t,.int .i64 16,.int .i64 64] w fun e w'=>IJ 344 (fP 0 t.data.toList) e∧Below w.heap.size w w':=by
 have hemp:t.toList.isEmpty=false:=by
  rw[←decide_eq_emptyBytes];exact decide_eq_false (fun h=>hne (by rw[h];rfl))
 obtain⟨cc,W1,hcv,hBel,hlt1,hB⟩:=wQ (P:=Tryz.prog) w 9 67 5 t Tryz.underlying9 Tryz.underlying67 Tryz.underlying5;obtain⟨bs,hL⟩:∃bs,bs=t.data.toList:=⟨_,rfl⟩
 have hLn:bs.length=t.size:=by rw[hL];simp
 have hB':∀j (hj:j<t.size),W1.cell? ⟨w.heap.size,j,none⟩=some (.int .u8 ((bs[j]'(by omega)).toNat:Int)):=fun j hj=>by
  subst hL;exact hB j hj
 rw[←hL];clear hL hB;have HB:=qd hB';clear hB'
 have hmv:IntKind.u64.wrap (IntKind.u64.wrap 18446744073709551616-1)=18446744073709551615:=by
  rw[IntKind.wrap_u64,IntKind.wrap_u64]
  decide
 have hLow:=qd (fun(c:Int) (W:World)=>AnyPu.internal_strconv_lower {Tryz.laysPu14 with} c W);go_in;go_wp2
 go_loop [12,13,101] (fun vu vn vi=>∃(k acc:Nat) (a:Int),vu= .bool false∧vn= .int .u64 a∧vi= .int .i64 k∧k≤t.size∧Hid (a=(acc:Int)∧acc<18446744073709551616∧fP 0 bs=fP acc (bs.drop k)))
  (fun _ _ vi=>t.size-(intOf vi).toNat)
 case atStart=>exact⟨0,0,0,rfl,rfl,rfl,by omega,rfl,by omega,rfl⟩
 case round=>
  obtain⟨k,acc,a,rfl,rfl,rfl,hk,hh⟩:=hrel;obtain⟨ha,hacc,hdec⟩:=hh.out;clear hh
  have a0:0≤a:=by omega
  have a1:a<18446744073709551616:=by omega
  by_cases hkn:k<t.size
  ·have hc:=HB.out k hkn;have hdrop:bs.drop k=bs[k]'(by omega)::bs.drop (k+1):=List.drop_eq_getElem_cons (by omega);rw[hdrop]at hdec;generalize bs[k]'(by omega)=c at hc hdec;have hc256:c.toNat<256:=c.toNat_lt;clear hdrop;by_cases hdig:48≤c.toNat∧c.toNat≤57
   ·obtain⟨hd0,hd1⟩:=hdig
    have hd:zU c=some (c.toNat-48):=by
     rw[zU,if_pos];unfold iJ;simp;omega
    by_cases hcut:1152921504606846976≤acc
    ·have HD:=qd (hdec.trans (Cn hd hcut _))
     have icut:1152921504606846976≤a:=by omega
     clear hcut hacc ha hdec;go_wp2;go_ret2;exact⟨Fu HD.out,hBel⟩
    ·have HN:Hid (a*16+((c.toNat:Int)-48)=((acc*16+(c.toNat-48):Nat):Int)∧acc*16+(c.toNat-48)<18446744073709551616∧fP 0 bs=fP (acc*16+(c.toNat-48)) (bs.drop (k+1))):=qd ⟨by omega,by omega,hdec.trans (Dv hd hcut _)⟩
     have icut:a<1152921504606846976:=by omega
     clear hcut hacc hdec ha;go_wp2;refine⟨⟨k+1,acc*16+(c.toNat-48),a*16+((c.toNat:Int)-48),rfl,(by first|rfl|(congr 1;omega)),(by first|rfl|(congr 1;omega)),by omega,HN⟩,by simp[intOf];omega⟩
   ·by_cases h95:c.toNat=95
    ·have hc95:c=95:=UInt8.toNat_inj.1 h95;subst hc95;have e95:((95:UInt8).toNat:Int)=95:=rfl;rw[e95]at hc
     have hd:zU 95=none:=by decide
     have HD:=qd (hdec.trans (Fv hd _ _))
     have e127:bits .or .u8 95 32=127:=by decide
     have Gn:=qd (show∀W,Calls Tryz.prog 231 #[.int .u8 95] W fun e w'=>e= .returned (.int .u8 127)∧w'=W from fun W=>by rw[←e127];exact hLow.out 95 W);clear hacc ha hdec hd e127 e95 h95 hdig hc256;go_wp2_with (go_at_call 231;refine(Gn.out _).mono ?_;rintro e w' ⟨rfl,rfl⟩);go_ret2;exact⟨zk HD.out,hBel⟩
    have b95:((c.toNat:Int)==95)=false:=by rw[beq_eq_false_iff_ne];omega
    have hx0:=bits_lo_u8 .or (c.toNat:Int) 32;have hx1:=bits_hi_u8 .or (c.toNat:Int) 32
    have MZ:iJ c=false:=by unfold iJ;simp;omega
    have JI:zU c=if 97≤bits .or .u8 (c.toNat:Int) 32∧bits .or .u8 (c.toNat:Int) 32≤102 then some ((bits .or .u8 (c.toNat:Int) 32).toNat-87)else none:=by rw[zU,MZ];rfl
    have hlow:∀W,Calls Tryz.prog 231 #[.int .u8 (c.toNat:Int)] W fun e w'=>e= .returned (.int .u8 (bits .or .u8 (c.toNat:Int) 32))∧w'=W:=fun W=>hLow.out _ W;generalize bits .or .u8 (c.toNat:Int) 32=x at hx0 hx1 JI hlow;have Gn:=qd hlow;clear hlow;by_cases h97:97≤x∧x≤102
    ·have hd:zU c=some (x.toNat-87):=by rw[JI,if_pos h97]
     obtain⟨q1,q2⟩:=h97;by_cases hcut:1152921504606846976≤acc
     ·have HD:=qd (hdec.trans (Cn hd hcut _))
      have icut:1152921504606846976≤a:=by omega
      clear hcut hacc ha hdec hd JI MZ;go_wp2_with (go_at_call 231;refine(Gn.out _).mono ?_;rintro e w' ⟨rfl,rfl⟩)
      all_goals (go_ret2;exact⟨Fu HD.out,hBel⟩)
     ·have HN:Hid (a*16+(x-87)=((acc*16+(x.toNat-87):Nat):Int)∧acc*16+(x.toNat-87)<18446744073709551616∧fP 0 bs=fP (acc*16+(x.toNat-87)) (bs.drop (k+1))):=qd ⟨by omega,by omega,hdec.trans (Dv hd hcut _)⟩
      have icut:a<1152921504606846976:=by omega
      clear hcut hacc hdec ha hd JI MZ;go_wp2_with (go_at_call 231;refine(Gn.out _).mono ?_;rintro e w' ⟨rfl,rfl⟩)
      all_goals refine⟨⟨k+1,acc*16+(x.toNat-87),a*16+(x-87),rfl,(by first|rfl|(congr 1;omega)),(by first|rfl|(congr 1;omega)),by omega,HN⟩,by simp[intOf];omega⟩
    ·have hd:zU c=none:=by rw[JI,if_neg h97]
     have HD:=qd (hdec.trans (Fv hd _ _));clear hacc ha hdec hd JI MZ;by_cases q1:x<97
     ·go_wp2_with (go_at_call 231;refine(Gn.out _).mono ?_;rintro e w' ⟨rfl,rfl⟩)
      all_goals (go_ret2;exact⟨zk HD.out,hBel⟩)
     ·by_cases q2:122<x
      ·go_wp2_with (go_at_call 231;refine(Gn.out _).mono ?_;rintro e w' ⟨rfl,rfl⟩)
       all_goals (go_ret2;exact⟨zk HD.out,hBel⟩)
      ·have q3:103≤x:=by omega
       go_wp2_with (go_at_call 231;refine(Gn.out _).mono ?_;rintro e w' ⟨rfl,rfl⟩)
       all_goals (go_ret2;exact⟨zk HD.out,hBel⟩)
  ·have hkk:k=t.size:=by omega
   subst hkk
   have hF:fP acc (bs.drop t.size)= .ok acc:=by rw[List.drop_eq_nil_of_le (by omega)];rfl
   have HD:=qd (hdec.trans hF);subst ha;clear hacc hF a0 a1 hdec;go_wp2;go_ret2;exact⟨YX HD.out,hBel⟩
end
section
variable {E : Nat → Addr} {w w' : World}
structure iL (E:Nat→Addr)(w:World):Prop where
 e13:dP E w 13
 syn:∃te pe,w.cell? ⟨22,0,none⟩=some (.iface te pe)
 rng:∃te pe,w.cell? ⟨23,0,none⟩=some (.iface te pe)
theorem iL.of_block (h:iL E w)(hb:∀k,k<w.heap.size→w'.heap[k]?=w.heap[k]?):iL E w':=by
 refine⟨h.e13.of_block hb, ?_, ?_⟩
 ·obtain⟨a,b,hm⟩:=h.syn;exact⟨a,b,(World.cell?_of_block (hb _ (World.block_lt_of_cell? w _ hm))).trans hm⟩
 ·obtain⟨a,b,hm⟩:=h.rng;exact⟨a,b,(World.cell?_of_block (hb _ (World.block_lt_of_cell? w _ hm))).trans hm⟩
theorem iL.below {B:Nat}(h:iL E w)(hb:Below B w w')(hB:w.heap.size≤B):iL E w':=h.of_block fun k hk=>hb.block k (by omega)
def V5 (w:World)(r:Lib.NumEnd Nat)(e:Ending)(w':World):Prop:=
 match r with
 | .ok n=>e= .returned (.tuple #[.int .u64 n,.nilIface])∧Below w.heap.size w w'
 |_=>∃m p,e= .returned (.tuple #[.int .u64 m,.iface 346 p])∧Below w.heap.size w w'
theorem QM {T:TypeId}{s:ByteArray}(h:w'=w∨w'=Lib.bytesWorld w T s):Below w.heap.size w w':=by
 rcases h with rfl|rfl
 ·exact Below.refl _ _
 ·exact Lib.bytesWorld_below _ _ _
theorem Fw (s:ByteArray)(w:World)(hs:s.size≤70000)(hN:iL E w):
  Calls Tryz.prog 122 #[.string s,.int .i64 10,.int .i64 64] w (V5 w (Lib.parseUintB 64 s.data.toList)):=by
 obtain⟨t1,p1,h1⟩:=hN.syn;obtain⟨t2,p2,h2⟩:=hN.rng
 cases h:Lib.parseUintB 64 s.data.toList with
 |ok n=>exact(Tryz.strconv_ParseUint_10_at64_ok s (by omega) n h w).mono fun e w' ⟨he,hw⟩=>⟨he,QM hw⟩
 |range=>exact(Tryz.strconv_ParseUint_10_at64_range s (by omega) h _ w h2 (.inr ⟨_,_,rfl⟩)).mono fun e w' ⟨N,he,_,_,hb⟩=>⟨_,_,he,hb⟩
 |_=>exact(Tryz.strconv_ParseUint_10_at64_syntax s (by omega) h _ w h1 (.inr ⟨_,_,rfl⟩)).mono fun e w' ⟨N,he,_,_,hb⟩=>⟨_,_,he,hb⟩
theorem QN (s:ByteArray)(w:World)(hs:s.size≤70000):
  Calls Tryz.prog 185 #[.string s,.int .i64 16,.int .i64 64] w fun e w'=>IJ 344 (p16 s.data.toList) e∧Below w.heap.size w w':=by
 by_cases h0:s.size=0
 ·have ht:s=⟨#[]⟩:=by
   apply ByteArray.ext;exact Array.eq_empty_of_size_eq_zero h0
  subst ht;exact(AnyPu.internal_strconv_ParseUint_empty {Tryz.laysPu14 with} 16 64 w).mono fun e w' ⟨he,hw⟩=>⟨he,hw▸Below.refl _ _⟩
 ·have hne:s.data.toList≠[]:=fun h=>h0 (by have:=congrArg List.length h;simpa using this);rw[p16,if_neg hne];exact Ou s h0 hs w
theorem QO (s:ByteArray)(w:World)(hs:s.size≤70000)(hN:iL E w):
  Calls Tryz.prog 122 #[.string s,.int .i64 16,.int .i64 64] w (V5 w (p16 s.data.toList)):=by
 have hI:=QN s w hs
 cases h:p16 s.data.toList with
 |ok n=>
  rw[h]at hI;have HI:=qd (show Calls Tryz.prog 185 #[.string s,.int .i64 16,.int .i64 64] w fun e w'=>e= .returned (.tuple #[.int .u64 n,.nilIface])∧Below w.heap.size w w' from hI);clear h hI;go_in;go_wp2_with (go_at_call 185;refine HI.out.mono ?_;rintro e w1 ⟨rfl,hb1⟩);go_ret2;exact⟨rfl,hb1⟩
 |range=>
  rw[h]at hI;have HI:=qd (show Calls Tryz.prog 185 #[.string s,.int .i64 16,.int .i64 64] w fun e w'=>e= .returned (.tuple #[.int .u64 18446744073709551615,.iface 344 (.int .i64 1)])∧Below w.heap.size w w' from hI);have HN:=qd hN;clear h hI hN;go_in
  go_wp2_with (first
   |(go_at_call 185;refine HI.out.mono ?_;rintro e w1 ⟨rfl,hb1⟩;obtain⟨te,pe,hce⟩:=(HN.out.below hb1 (Nat.le_refl _)).rng)
   |(go_at_call 186;refine(AnyPu.strconv_toError_range {Tryz.laysPu14 with} ⟨#[80,97,114,115,101,85,105,110,116]⟩ s 16 64 _ _ (by omega) hce (.inr ⟨_,_,rfl⟩)).mono ?_;rintro e w2 ⟨N,rfl,_,_,hb2⟩))
  go_ret2;exact⟨_,_,rfl,hb1.trans (hb2.mono hb1.size)⟩
 |_=>
  rw[h]at hI;have HI:=qd (show Calls Tryz.prog 185 #[.string s,.int .i64 16,.int .i64 64] w fun e w'=>e= .returned (.tuple #[.int .u64 0,.iface 344 (.int .i64 2)])∧Below w.heap.size w w' from hI);have HN:=qd hN;clear h hI hN;go_in
  go_wp2_with (first
   |(go_at_call 185;refine HI.out.mono ?_;rintro e w1 ⟨rfl,hb1⟩;obtain⟨te,pe,hce⟩:=(HN.out.below hb1 (Nat.le_refl _)).syn)
   |(go_at_call 186;refine(AnyPu.strconv_toError_syntax {Tryz.laysPu14 with} ⟨#[80,97,114,115,101,85,105,110,116]⟩ s 16 64 _ _ (by omega) hce (.inr ⟨_,_,rfl⟩)).mono ?_;rintro e w2 ⟨N,rfl,_,_,hb2⟩))
  go_ret2;exact⟨_,_,rfl,hb1.trans (hb2.mono hb1.size)⟩
def xG (E:Nat→Addr)(w:World)(r:Option Nat)(e:Ending)(w':World):Prop:=
 match r with
 |some n=>e= .returned (.tuple #[.int .u64 n,.nilIface])∧Below w.heap.size w w'
 |none=>e= .returned (.tuple #[.int .u64 0,.iface 379 (.pointer (some (E 13)))])∧Below w.heap.size w w'
end
end Go.Proofs.YtgiaobmcbbfmnaaGreatDoor
