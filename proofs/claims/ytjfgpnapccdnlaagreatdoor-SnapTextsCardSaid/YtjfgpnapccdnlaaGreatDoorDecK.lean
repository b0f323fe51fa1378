/- words.Split of a text that is not too long, by its contract. -/
import Derived.Test.YtjfgpnapccdnlaaGreatDoorWordsT
import Derived.Test.YtjfgpnapccdnlaaGreatDoorBuilder
import Derived.Test.YtjfgpnapccdnlaaGreatDoorSqT
import Derived.WalkKit
import Derived.WalkSpells
import Derived.WalkLawsBesides
import Derived.Outline
import Derived.Test.YtjfgpnapccdnlaaGreatDoorDecP
import Derived.Deep.RegionWith
import Derived.Laws.IdiomStrings
import Derived.Test.YtjfgpnapccdnlaaGreatDoorErrs
import Derived.Test.YtjfgpnapccdnlaaGreatDoorShelf
import Derived.Lib.Walk
import Derived.Lib.AtoiErrMem
import Derived.Lib.ParseIntBMem
import Derived.Laws.Strings3
import Derived.Laws.Closers25
import Derived.BigCall
import Derived.BigGuard
import Derived.BigQuiet
import Derived.Deep.QuietTactic
namespace Go.Proofs.YtjfgpnapccdnlaaGreatDoor
set_option maxRecDepth 100000
set_option maxHeartbeats 16000000
open Go.RowKit qw yS
section
variable {w : World} {base : Nat} {v : Value} {L : List (Nat × List fI)}
structure ab7 (E:Nat→Addr)(w W0:World)(s:ByteArray)(R:CF)(k:Nat)(acc:List (Nat×List (List UInt8)))(v:Value)(wr:World):Prop where
 res:fH acc (k+1) ((lines s.data.toList).drop k)=R
 own:dU wr (w.heap.size+1) v acc
 below:Below (w.heap.size+1) W0 wr
 len:acc.length≤k
theorem Gt {l:(List UInt8)}{b:ByteArray}(hb:uM l b)(hl:l.length≤60000):b.size≤70000:=by
 have:b.data.toList.length=b.size:=by simp
 unfold uM at hb;rw[hb]at this;omega
theorem zK {W0 wr w2:World}{B B':Nat}(_h0:Below B w W0)(h:Below B' W0 wr){nq:Nat}(h2:Below (wr.drewN nq).heap.size (wr.drewN nq) w2)(hB:B'≤W0.heap.size)(_n:Nat):Below B' W0 w2:=
 (below_drewN h nq).trans (h2.mono (Nat.le_trans hB h.size))
theorem FC (h:dU w base v L)(o:Obj):dU (w.alloc o) base v L:=
 h.below (B:=w.heap.size) ((Below.refl _ _).alloc (Nat.le_refl _) o) (Nat.le_refl _)
theorem FD (h:dU w base v L)(n:Nat):dU (w.drewN n) base v L:=
 h.below (B:=w.heap.size) (below_drewN (Below.refl _ _) n) (Nat.le_refl _)
theorem OG (h:dU w base v L)(hb:base≤w.heap.size)(r:List fI)(hr:r.length≤60000):
  dH (w.alloc (.cells (r.map dN).toArray 9)) base (.slice (some ⟨w.heap.size,0,none⟩) r.length r.length) r∧dU (w.alloc (.cells (r.map dN).toArray 9)) base v L:=by
 refine⟨?_,FC h _⟩;have:=World.ownsRow_lit (base:=base) (e:=9) (size:=1) w (r.map dN).toArray r.length hb (by simp only[maxLen];omega) (by simp);unfold dH;simpa using this
theorem add_pos {acc:List (Nat×List (List UInt8))}{n:Nat}{row:List (List UInt8)}(h:row≠[]):add acc n row=acc++[(n,row)]:=by unfold add;rw[if_neg h]
theorem add_zero (acc:List (Nat×List (List UInt8)))(n:Nat):add acc n []=acc:=rfl
theorem EW {E:Nat→Addr}(s:ByteArray)(w:World)(hs:s.size≤60000)(hE:fK E w):
  Calls Tryz.prog 20 #[.string s] w (WJ E w (fH [] 1 (lines s.data.toList))):=by
 obtain⟨m,hm⟩:=hE.max;have hsp:=Tryz.strings_Split s ⟨#[10]⟩ m w (by omega) hm (by decide);have hpl:((Lib.splitB ⟨#[10]⟩ 0 (Lib.countB s ⟨#[10]⟩) s).map (·.data.toList))=lines s.data.toList:=QK s;have hlen:=Ho s.data.toList
 have hsl:s.data.toList.length=s.size:=by simp
 have hN:(Lib.splitB ⟨#[10]⟩ 0 (Lib.countB s ⟨#[10]⟩) s).length=Lib.countB s ⟨#[10]⟩+1:=Lib.splitB_all ⟨#[10]⟩ (by decide) 0 _ s rfl;generalize hps:Lib.splitB ⟨#[10]⟩ 0 (Lib.countB s ⟨#[10]⟩) s=ps at*;generalize hcn:Lib.countB s ⟨#[10]⟩+1=N at*;clear hps hcn
 have R7:(lines s.data.toList).length=N:=by rw[←hpl,List.length_map,hN]
 generalize hRR:fH [] 1 (lines s.data.toList)=R;have HR:=qd hRR;clear hRR;obtain⟨W0,hW0⟩:∃W0,W0=w.alloc (.cells (ps.map Value.string).toArray 9):=⟨_,rfl⟩
 have hE0:fK E W0:=by rw[hW0];exact hE.alloc _
 have hb0:Below w.heap.size w W0:=by rw[hW0];exact(Below.refl _ _).alloc (Nat.le_refl _) _
 have hz0:W0.heap.size=w.heap.size+1:=by rw[hW0];simp
 have hcell:∀k (hk:k<N),∃p:ByteArray,W0.cell? ⟨w.heap.size,k,none⟩=some (.string p)∧(lines s.data.toList)[k]?=some p.data.toList:=by
  intro k hk
  have hkp:k<ps.length:=by omega
  refine⟨ps[k], ?_, ?_⟩
  ·rw[hW0,(aj.new w 9 (ps.map Value.string).toArray).cell,List.getElem?_toArray,List.getElem?_map,List.getElem?_eq_getElem hkp];rfl
  ·rw[←hpl,List.getElem?_map,List.getElem?_eq_getElem hkp];rfl
 have ze:=qd hsp;have HW0:=qd hW0;have HC:=qd hcell;have HN:=qd R7;have HPL:=qd hpl;have HZ:=qd hz0
 have hNs:N≤s.size+1:=by omega
 have hz1:W0.heap.size≤w.heap.size+1:=by omega
 have hz2:w.heap.size+1≤W0.heap.size:=by omega
 clear hsp hW0 hcell R7 hpl hz0 hm hN hlen hsl;go_in;go_wp2_with (go_at_call 44;refine ze.out.mono ?_;rintro e w' ⟨rfl,rfl⟩;rw[←HW0.out]);go_loopw [5,6,7,8,16] (fun v _ _ _ i wr=>∃(k:Nat) (acc:List (Nat×List (List UInt8))),k≤N∧i= .int .i64 k∧ab7 E w W0 s R k acc v wr) (fun _ _ _ _ i _=>N-(intOf i).toNat)
 case atStart=>exact⟨0,[],by omega,rfl,HR.out,dU.nil _ _,Below.refl _ _,by simp⟩
 case round=>
  obtain⟨k,acc,hk,rfl,h⟩:=hrel;by_cases hlt:k<N
  ·obtain⟨p,hp1,hp2⟩:=HC.out k hlt;have hc:wr.cell? ⟨w.heap.size,k,none⟩=some (.string p):=(h.below.cell (p:=⟨w.heap.size,k,none⟩) (by simp)).trans hp1;have hEr:fK E wr:=hE0.below h.below hz1;have hpm:=Vw _ _ (List.mem_of_getElem? hp2)
   have hps:p.size≤60000:=by
    have:p.data.toList.length=p.size:=by simp
    have:s.data.toList.length=s.size:=by simp
    omega
   have hres:=h.res
   have hd:(lines s.data.toList).drop k=p.data.toList::(lines s.data.toList).drop (k+1):=by
    obtain⟨h1,h2⟩:=List.getElem?_eq_some_iff.1 hp2;rw[List.drop_eq_getElem_cons h1,h2]
   rw[hd,CJ]at hres;have hbl:=EZ p.data.toList
   have aeU:p.data.toList.length=p.size:=by simp
   obtain⟨m',hm'⟩:=hEr.max;have ZE:=qd (WI p m' wr (by omega) hm')
   have ZF:(body p.data.toList).length≤60000:=by omega
   generalize body p.data.toList=bd at*;clear hp1 hp2 hpm hd hm' hbl aeU;have hown:=h.own;have hbel:=h.below;have hacc:=h.len;clear h
   cases hf:gH bd with
   |false=>
    rw[hf,if_neg (by simp)]at hres;have Gu:=qd hres;have HF:=qd hf;clear hres hf
    go_wp2_with (first
     |(go_at_call 45;refine ZE.out.mono ?_;rintro e w1 ⟨b,r2,r3,nq,hb,rfl,rfl⟩;have hbs:=Gt hb ZF)
     |(go_at_call 46;refine(Gs b _ hbs hb HF.out).mono ?_;rintro e w2 ⟨rfl,hb2⟩;have hE2:=(hEr.drewN nq).below hb2 (Nat.le_refl _);have h3:=hE2.e3;simp only[dL,gE]at h3;have hw2:=zK hb0 hbel hb2 hz2 nq))
    go_quiet (fail);go_wp2;go_ret3;rw[←Gu.out];exact⟨rfl,below_drewN (hb0.trans (hw2.mono (by omega))) _⟩
   |true=>
    rw[hf,if_pos rfl]at hres;have hfl:=Gc bd;have HF:=qd hf;clear hf
    cases hfs:Lib.fields bd with
    |nil=>
     rw[hfs,add_zero]at hres;have Gu:=qd hres;have HFS:=qd hfs;clear hres hfs
     go_wp2_with (first
      |(go_at_call 45;refine ZE.out.mono ?_;rintro e w1 ⟨b,r2,r3,nq,hb,rfl,rfl⟩;have hbs:=Gt hb ZF)
      |(go_at_call 46;refine(za b _ hbs hb HF.out).mono ?_;rintro e w2 ⟨rfl,hb2⟩;have hE2:=(hEr.drewN nq).below hb2 (Nat.le_refl _);have hw2:=zK hb0 hbel hb2 hz2 nq;have hown2:=(FD hown nq).below hb2 (Nat.le_refl _))
      |(go_at_call 47;refine(Dw b bd _ hb (by omega) HF.out hE2.tab).mono ?_;rw[HFS.out];rintro e w3 ⟨rfl,rfl⟩))
     go_roundw
     case rel=>exact⟨k+1,acc,by omega,by go_num,Gu.out,FC hown2 _,hw2.alloc (Nat.le_trans hz2 hw2.size) _,by omega⟩
     case measure=>first|(simp[intOf];done)|(simp[intOf];omega)
    |cons f0 fr=>
     rw[hfs,add_pos (by simp)]at hres;have Gu:=qd hres;have HFS:=qd hfs
     have hpos:(0:Int)<((Lib.fields bd).length:Int):=by rw[hfs,List.length_cons];omega
     have aeV:(Lib.fields bd).length≤60000:=by omega
     clear hres hfs
     go_wp2_with (first
      |(go_at_call 45;refine ZE.out.mono ?_;rintro e w1 ⟨b,r2,r3,nq,hb,rfl,rfl⟩;have hbs:=Gt hb ZF)
      |(go_at_call 46;refine(za b _ hbs hb HF.out).mono ?_;rintro e w2 ⟨rfl,hb2⟩;have hE2:=(hEr.drewN nq).below hb2 (Nat.le_refl _);have hw2:=zK hb0 hbel hb2 hz2 nq;have hown2:=(FD hown nq).below hb2 (Nat.le_refl _))
      |(go_at_call 47;refine(Dw b bd _ hb (by omega) HF.out hE2.tab).mono ?_;rintro e w3 ⟨rfl,rfl⟩;have hz3:=Nat.le_trans hz2 hw2.size;have hw3:=hw2.alloc hz3 (.cells ((Lib.fields bd).map dN).toArray 9);have hF3:=OG hown2 hz3 (Lib.fields bd) aeV;obtain⟨hS3,vs,l1,l2,l3⟩:=hF3)
      |(at_builtin;refine aB rfl rfl Tm l1 rfl rfl (by simp) rfl rfl (by omega) (Nat.le_trans hz2 hw3.size) ?_;intro v4 w4 dh hg4;have hL4:=dU.push (n:=k+1) (r:=Lib.fields bd) l1 l2 l3 hS3 dh hg4;have hw4:=hw3.trans hg4.below;clear dh hg4))
     go_roundw
     case rel=>exact⟨k+1,acc++[(k+1,Lib.fields bd)],by omega,by go_num,by rw[←Gu.out,HFS.out],hL4,hw4,by simp;omega⟩
     case measure=>first|(simp[intOf];done)|(simp[intOf];omega)
  ·have hres:=h.res;rw[List.drop_eq_nil_of_le (by rw[HN.out];omega)]at hres;have hown:=(h.own).base (base':=w.heap.size) (by omega);have hbel:=hb0.trans (h.below.mono (by omega));have Gu:=qd hres;clear hres h;go_wp2;go_ret3;rw[←Gu.out];exact⟨_,rfl,hown,hbel⟩
end
section
variable {E : Nat → Addr} {w w' : World} {B : Nat} {v : Value}
structure uo (E:Nat→Addr)(w:World):Prop where
 words:fK E w
 tz:w.cell? ⟨21,15,none⟩=some (.int .u8 4)
theorem uo.of_block (h:uo E w)(hb:∀k,k<w.heap.size→w'.heap[k]?=w.heap[k]?):uo E w':=
 ⟨h.words.of_block hb,(World.cell?_of_block (hb _ (World.block_lt_of_cell? w _ h.tz))).trans h.tz⟩
theorem uo.below (h:uo E w)(hb:Below B w w')(hB:w.heap.size≤B):uo E w':=h.of_block fun k hk=>hb.block k (by omega)
theorem uo.alloc (h:uo E w)(o:Obj):uo E (w.alloc o):=h.of_block fun k hk=>Below.heap_alloc w o k hk
theorem uo.drewN (h:uo E w)(n:Nat):uo E (w.drewN n):=h.of_block fun _ _=>rfl
structure om (E:Nat→Addr)(w:World):Prop where
 lib:uo E w
 errs:eU E w
theorem om.words (h:om E w):fK E w:=h.lib.words
theorem om.of_block (h:om E w)(hb:∀k,k<w.heap.size→w'.heap[k]?=w.heap[k]?):om E w':=⟨h.lib.of_block hb,h.errs.of_block hb⟩
theorem om.below (h:om E w)(hb:Below B w w')(hB:w.heap.size≤B):om E w':=h.of_block fun k hk=>hb.block k (by omega)
theorem om.alloc (h:om E w)(o:Obj):om E (w.alloc o):=h.of_block fun k hk=>Below.heap_alloc w o k hk
theorem om.drewN (h:om E w)(n:Nat):om E (w.drewN n):=h.of_block fun _ _=>rfl
theorem dU.at_ {base:Nat}{L:List (Nat×List fI)}(h:dU w base v L){i:Nat}{p:Nat×List fI}(hp:L[i]?=some p):
  ∃g c A c',v= .slice (some ⟨g,0,none⟩) L.length c∧g<w.heap.size∧w.cell? ⟨g,i*2,none⟩=some (.int .i64 (p.1:Int))∧w.cell? ⟨g,i*2+1,none⟩=some (.slice A p.2.length c')∧Reads w w.heap.size 1 A p.2.length (p.2.map dN):=by
 obtain⟨vs,h1,h2,h3⟩:=h;obtain⟨u,hu,hs⟩:=h3 i p hp;have hi:i<L.length:=(List.getElem?_eq_some_iff.1 hp).1;obtain⟨g,cap,rfl,hg,hlt⟩:=h1.form (by omega);obtain⟨A,c',rfl⟩:=aH hs;have hcells:=h1.cells (g:=g) rfl
 have hget:∀(L:List (Nat×List fI)) (vs:List Value) (i:Nat) (p:Nat×List fI) (u:Value),L[i]?=some p→vs[i]?=some u→(iV L vs)[i*2]?=some (.int .i64 (p.1:Int))∧(iV L vs)[i*2+1]?=some u:=by
  intro L
  induction L with
  |nil=>intro vs i p u h;simp at h
  |cons q L ih=>
   intro vs i p u hp hu
   cases vs with
   |nil=>simp at hu
   |cons y vs=>
    cases i with
    |zero=>
     simp only[List.getElem?_cons_zero,Option.some.injEq]at hp hu;subst hp;subst hu;simp[iV]
    |succ i=>
     simp only[List.getElem?_cons_succ]at hp hu;have:=ih vs i p u hp hu
     have e:iV (q::L) (y::vs)= .int .i64 (q.1:Int)::y::iV L vs:=by simp[iV]
     rw[e,show(i+1)*2=i*2+1+1 by omega];simpa using this
 obtain⟨c1,c2⟩:=hget L vs i p _ hp hu
 have hadd:∀j,(⟨g,0,none⟩:Addr).add j=⟨g,j,none⟩:=fun j=>by unfold Addr.add;split<;>simp_all
 have e1:=hcells _ _ c1;have e2:=hcells _ _ c2;rw[hadd]at e1 e2;exact⟨g,cap,A,c',rfl,hlt,e1,e2,Reads.iC hs⟩
def afY:fI:=[112,117,116,32,49,32,32,48,120,50,32,35,32,120]
def af2:List fI:=[[112,117,116],[49],[48,120,50]]
end
theorem ZG {b c:UInt8}{k:Int}(h:b≠c)(hk:(c.toNat:Int)=k):((b.toNat:Int)==k)=false:=by
 rw[beq_eq_false_iff_ne];intro e;exact h (UInt8.toNat_inj.1 (by omega))
def Says (l:List UInt8)(b:ByteArray):Prop:=b.data.toList=l
def BD (w:World)(l:List UInt8)(e:Ending)(w':World):Prop:=∃b:ByteArray,Says l b∧e= .returned (.string b)∧Below w.heap.size w w'
theorem BF (W:World)(a:Addr)(c:UInt8)(h:W.cell? a=some (.int .u8 (c.toNat:Int))):(convert 51 9 (.slice (some a) 1 1)).run Tryz.prog W= .ok (.string ⟨#[c]⟩) W:=by
 refine run_convert_bytes_back (P:=Tryz.prog) W 51 9 5 a 1 [c] Tryz.underlying51 Tryz.underlying5 Tryz.underlying9 fun j hj=> ?_
 obtain rfl:j=0:=by simpa using hj
 have:a.add 0=a:=by unfold Addr.add;split<;>simp_all
 rw[this];exact h
theorem JV (n:Nat)(h:n<10)(w:World):Calls Tryz.prog 49 #[.int .u64 n] w (BD w (digits n)):=by
 have b1:(n:Int)<10:=by omega
 have hv:(48+(n:Int))=((dg n).toNat:Int):=by rw[byte_of h];omega
 have hc:=fun b=>BF (w.alloc (.cells #[.int .u8 (48+(n:Int))] 5)) b (dg n)
 have hcell:(w.alloc (.cells #[.int .u8 (48+(n:Int))] 5)).cell? ⟨w.heap.size,0,none⟩=some (.int .u8 ((dg n).toNat:Int)):=by
  rw[hv];exact(aj.new w 5 _).cell 0
 have hcv:=hc _ hcell;clear hc hcell hv;go_in;go_wp2;go_ret;exact⟨_,by rw[Says,iJ n h],rfl,(Below.refl _ _).alloc (Nat.le_refl _) _⟩
theorem JW {w w1:World}(h:Below w.drew.heap.size w.drew w1):Below w.heap.size w w1:=⟨h.os,h.tape,h.output,h.size,h.block⟩
theorem OH {w w1:World}{o:Obj}(h:Below (w.alloc o).drew.heap.size (w.alloc o).drew w1):Below w.heap.size w w1:=
 ((Below.refl _ w).alloc (Nat.le_refl _) o).trans ((JW (w:=w.alloc o) h).mono (by simp))
theorem Dx {n:Nat}{b:ByteArray}(h:10≤n)(hb:Says (digits (n/10)) b):Says (digits n) (b++⟨#[dg (n % 10)]⟩):=by
 unfold Says at hb⊢;rw[ku n (by omega),←hb];simp
theorem JX (n:Nat)(h:10≤n)(hn:n<18446744073709551616)(w:World)(ih:∀w,Calls Tryz.prog 49 #[.int .u64 ((n/10:Nat):Int)] w (BD w (digits (n/10)))):
  Calls Tryz.prog 49 #[.int .u64 n] w (BD w (digits n)):=by
 have b1:¬(n:Int)<10:=by omega
 have e0:IntKind.u64.wrap ((n:Int)/10)=((n/10:Nat):Int):=by rw[IntKind.wrap_u64];omega
 have e1:IntKind.u8.wrap (IntKind.u64.wrap (48+(n:Int).tmod 10))=((dg (n % 10)).toNat:Int):=by
  rw[byte_of (Nat.mod_lt _ (by omega)),Int.tmod_eq_emod_of_nonneg (by omega),IntKind.wrap_u64,IntKind.wrap_u8];omega
 have hcA:∀W:World,(convert 51 9 (.slice (some ⟨W.heap.size,0,none⟩) 1 1)).run Tryz.prog (W.alloc (.cells #[.int .u8 ((dg (n % 10)).toNat:Int)] 5))= .ok (.string ⟨#[dg (n % 10)]⟩) (W.alloc (.cells #[.int .u8 ((dg (n % 10)).toNat:Int)] 5)):=
  fun W=>BF _ _ _ ((aj.new W 5 _).cell 0)
 have hcC:∀W:World,(convert 51 9 (.slice (some ⟨W.heap.size,0,none⟩) 1 1)).run Tryz.prog (W.alloc (.cells #[.int .u8 ((dg (n % 10)).toNat:Int)] 5)).drew= .ok (.string ⟨#[dg (n % 10)]⟩) (W.alloc (.cells #[.int .u8 ((dg (n % 10)).toNat:Int)] 5)).drew:=
  fun W=>BF _ _ _ ((aj.new W 5 _).cell 0)
 have hcB:=qd (show∀W w1:World,Below W.heap.size W w1→∀k,W.cell? ⟨k,0,none⟩=some (.int .u8 ((dg (n % 10)).toNat:Int))→(convert 51 9 (.slice (some ⟨k,0,none⟩) 1 1)).run Tryz.prog w1= .ok (.string ⟨#[dg (n % 10)]⟩) w1 from
  fun W w1 hb k hk=>BF _ _ _ ((hb.cell (p:=⟨k,0,none⟩) (World.block_lt_of_cell? W _ hk)).trans hk))
 have hcell:=qd ((aj.new w 5 #[.int .u8 ((dg (n % 10)).toNat:Int)]).cell 0)
 have hsz:∀b:ByteArray,Says (digits (n/10)) b→b.size≤20:=fun b hb=>by
  have:=digits_length 19 (n/10) (by omega);rw[←hb]at this;simpa using this
 have Ih:=qd ih;have Hsz:=qd hsz;clear ih hsz;go_in;go_wp2;go_region_with (go_at_call 49;refine(Ih.out _).mono ?_;rintro e w1 ⟨b,hb,rfl,hb1⟩;have agD:=Hsz.out _ hb;try (have hq:=hcB.out _ _ hb1 w.heap.size hcell.out))
 all_goals go_wp2
 all_goals go_ret
 ·exact⟨_,Dx h hb,rfl,(JW hb1).alloc (JW hb1).size _⟩
 ·exact⟨_,Dx h hb,rfl,OH hb1⟩
 ·exact⟨_,Dx h hb,rfl,OH hb1⟩
theorem OI (n:Nat):∀(w:World),n<18446744073709551616→Calls Tryz.prog 49 #[.int .u64 n] w (BD w (digits n)):=by
 induction n using Nat.strongRecOn with
 |_ n ih=>
  intro w hn;by_cases h:n<10
  ·exact JV n h w
  ·exact JX n (by omega) hn w fun w'=>ih (n/10) (by omega) w' (by omega)
def uq (h:Bool)(c:UInt8):Bool:=if h then eH c else dR c
def nR (h:Bool)(l:List UInt8):Bool:=l.all (uq h)
def vS (h:Bool)(l:List UInt8):Bool:=nR h l && !l.isEmpty
theorem xW {h:Bool}{l:List UInt8}(hf:nR h l=false):vS h l=false:=by rw[vS,hf];rfl
theorem ab8 {h:Bool}{s:ByteArray}(hf:nR h s.data.toList=true):vS h s.data.toList= !s.toList.isEmpty:=by rw[vS,hf,ByteArray.toList_eq];rfl
theorem WK (h:Bool)(l:List UInt8)(k:Nat)(hk:k<l.length):nR h (l.take (k+1))=(nR h (l.take k) && uq h l[k]):=by
 unfold nR;rw[List.take_succ_eq_append_getElem hk,List.all_append];simp
theorem vV (s:ByteArray)(h:Bool)(w:World)(hs:s.size≤70000):
  Calls Tryz.prog 129 #[.string s,.bool h] w fun e w'=>e= .returned (.bool (vS h s.data.toList))∧Below w.heap.size w w':=by
 have hlen:s.data.toList.length=s.size:=by simp
 obtain⟨c,W,Tv,hB,hlt,hcell⟩:=wO (P:=Tryz.prog) w 9 51 5 s Tryz.underlying9 Tryz.underlying51 Tryz.underlying5;have HC:=qd hcell;clear hcell;go_in;go_wp2;go_loop [6,10] (fun _ i=>∃k:Nat,k≤s.size∧i= .int .i64 k∧nR h (s.data.toList.take k)=true) (fun _ i=>s.size-(intOf i).toNat)
 case atStart=>exact⟨0,by omega,rfl,rfl⟩
 case round=>
  obtain⟨k,hk,rfl,hf⟩:=hrel;by_cases hkl:k<s.size
  ·have hc:=HC.out k hkl;have ht:=WK h s.data.toList k (by omega);have hg:s.data.toList[k]'(by omega)=s[k]:=rfl;rw[hf,Bool.true_and,hg]at ht
   have hfl:uq h s[k]=false→nR h s.data.toList=false:=fun hfc=>by
    have h2:nR h (s.data.toList.take (k+1))=false:=by rw[ht];exact hfc
    unfold nR at h2⊢;rw[List.all_eq_false]at h2⊢;obtain⟨x,hx,hx2⟩:=h2;exact⟨x,List.mem_of_mem_take hx,hx2⟩
   have Ht:=qd ht;have IZ:=qd hfl;clear ht hf hg hfl;generalize hcd:s[k]=cd at hc Ht IZ;have Hcd:=qd hcd;clear hcd;by_cases q1:(cd.toNat:Int)<48
   ·have hcase:h=true∨h=false:=by cases h<;>simp
    have q2:¬(57:Int)<(cd.toNat:Int):=by omega
    have q3:(cd.toNat:Int)<97:=by omega
    have HX:=qd (show nR h s.data.toList=false from IZ.out (by unfold uq eH dR;cases h<;>simp<;>omega));rcases hcase with rfl|rfl
    ·go_wp2;go_ret;exact⟨jl (xW HX.out).symm,hB⟩
    ·go_wp2;go_ret;exact⟨jl (xW HX.out).symm,hB⟩
   ·by_cases q2:(57:Int)<(cd.toNat:Int)
    ·cases h with
     |false=>
      have HX:=qd (show nR false s.data.toList=false from IZ.out (by unfold uq dR;simp;omega));go_wp2;go_ret;exact⟨jl (xW HX.out).symm,hB⟩
     |true=>
      by_cases q3:(cd.toNat:Int)<97
      ·have HX:=qd (show nR true s.data.toList=false from IZ.out (by unfold uq eH dR;simp;omega));go_wp2;go_ret;exact⟨jl (xW HX.out).symm,hB⟩
      ·by_cases q4:(102:Int)<(cd.toNat:Int)
       ·have HX:=qd (show nR true s.data.toList=false from IZ.out (by unfold uq eH dR;simp;omega));go_wp2;go_ret;exact⟨jl (xW HX.out).symm,hB⟩
       ·have HX:=qd (show uq true cd=true from by unfold uq eH dR;simp;omega);go_wp2;go_round
        case rel=>exact⟨k+1,by omega,by go_num,by rw[Ht.out];exact HX.out⟩
        case measure=>simp[intOf];omega
    ·have HX:=qd (show uq h cd=true from by unfold uq eH dR;cases h<;>simp<;>omega);go_wp2;go_round
     case rel=>exact⟨k+1,by omega,by go_num,by rw[Ht.out];exact HX.out⟩
     case measure=>simp[intOf];omega
  ·have hfl:nR h s.data.toList=true:=by rwa [List.take_of_length_le (by omega)]at hf
   have IZ:=qd hfl;clear hfl hf;go_wp2;go_ret;exact⟨jl (ab8 IZ.out).symm,hB⟩
section
variable {acc d n : Nat} {T : TypeId} {r : Lib.NumEnd Nat} {c : UInt8}
def p16 (l:List UInt8):Lib.NumEnd Nat:=if l=[]then Lib.NumEnd.syntax else fJ 0 l
theorem p16_hex {l:List UInt8}(h:hex l=some n):p16 l= .ok n:=by
 rw[p16,if_neg (Bb h).1,QL h]
def I4 (T:TypeId)(r:Lib.NumEnd Nat)(e:Ending):Prop:=e= .returned (Lib.uintTuple T r)
theorem K7 (h:r=Lib.NumEnd.syntax):I4 T r (.returned (.tuple #[.int .u64 0,.iface T (.int .i64 2)])):=by subst h;rfl
theorem FE (h:r= .range):I4 T r (.returned (.tuple #[.int .u64 18446744073709551615,.iface T (.int .i64 1)])):=by subst h;rfl
theorem ZH (h:r= .ok n):I4 T r (.returned (.tuple #[.int .u64 n,.nilIface])):=by subst h;rfl
theorem FH (h:zZ c=none)(acc:Nat)(r:List UInt8):fJ acc (c::r)=Lib.NumEnd.syntax:=by rw[fJ,h]
theorem Cu (h:zZ c=some d)(ha:1152921504606846976≤acc)(r:List UInt8):fJ acc (c::r)= .range:=by rw[fJ,h];simp only;rw[if_pos ha]
theorem Dy (h:zZ c=some d)(ha:¬1152921504606846976≤acc)(r:List UInt8):fJ acc (c::r)=fJ (acc*16+d) r:=by rw[fJ,h];simp only;rw[if_neg ha]
theorem OJ (t:ByteArray)(hne:t.size≠0)(hmax:t.size≤70000)(w:World):
  Calls Tryz.prog 194 #[.string t,.int .i64 16,.int .i64 64] w fun e w'=>I4 357 (fJ 0 t.data.toList) e∧Below w.heap.size w w':=by
 have hemp:t.toList.isEmpty=false:=by
  rw[←decide_eq_emptyBytes];exact decide_eq_false (fun h=>hne (by rw[h];rfl))
 obtain⟨cc,W1,hcv,hBel,hlt1,hB⟩:=wO (P:=Tryz.prog) w 9 51 5 t Tryz.underlying9 Tryz.underlying51 Tryz.underlying5;obtain⟨bs,hL⟩:∃bs,bs=t.data.toList:=⟨_,rfl⟩
 have hLn:bs.length=t.size:=by rw[hL];simp
 have hB':∀j (hj:j<t.size),W1.cell? ⟨w.heap.size,j,none⟩=some (.int .u8 ((bs[j]'(by omega)).toNat:Int)):=fun j hj=>by
  subst hL;exact hB j hj
 rw[←hL];clear hL hB;have HB:=qd hB';clear hB'
 have hmv:IntKind.u64.wrap (IntKind.u64.wrap 18446744073709551616-1)=18446744073709551615:=by
  rw[IntKind.wrap_u64,IntKind.wrap_u64]
  decide
 have hLow:=qd (fun(c:Int) (W:World)=>AnyPu.internal_strconv_lower {Tryz.laysPu14 with} c W);go_in;go_wp2
 go_loop [12,13,101] (fun vu vn vi=>∃(k acc:Nat) (a:Int),vu= .bool false∧vn= .int .u64 a∧vi= .int .i64 k∧k≤t.size∧Hid (a=(acc:Int)∧acc<18446744073709551616∧fJ 0 bs=fJ acc (bs.drop k)))
  (fun _ _ vi=>t.size-(intOf vi).toNat)
 case atStart=>exact⟨0,0,0,rfl,rfl,rfl,by omega,rfl,by omega,rfl⟩
 case round=>
  obtain⟨k,acc,a,rfl,rfl,rfl,hk,hh⟩:=hrel;obtain⟨ha,hacc,hdec⟩:=hh.out;clear hh
  have a0:0≤a:=by omega
  have a1:a<18446744073709551616:=by omega
  by_cases hkn:k<t.size
  ·have hc:=HB.out k hkn;have hdrop:bs.drop k=bs[k]'(by omega)::bs.drop (k+1):=List.drop_eq_getElem_cons (by omega);rw[hdrop]at hdec;generalize bs[k]'(by omega)=c at hc hdec;have hc256:c.toNat<256:=c.toNat_lt;clear hdrop;by_cases hdig:48≤c.toNat∧c.toNat≤57
   ·obtain⟨hd0,hd1⟩:=hdig
    have hd:zZ c=some (c.toNat-48):=by
     rw[zZ,if_pos];unfold dR;simp;omega
    by_cases hcut:1152921504606846976≤acc
    ·have HD:=qd (hdec.trans (Cu hd hcut _))
     have icut:1152921504606846976≤a:=by omega
     clear hcut hacc ha hdec;go_wp2;go_ret2;exact⟨FE HD.out,hBel⟩
    ·have HN:Hid (a*16+((c.toNat:Int)-48)=((acc*16+(c.toNat-48):Nat):Int)∧acc*16+(c.toNat-48)<18446744073709551616∧fJ 0 bs=fJ (acc*16+(c.toNat-48)) (bs.drop (k+1))):=qd ⟨by omega,by omega,hdec.trans (Dy hd hcut _)⟩
     have icut:a<1152921504606846976:=by omega
     clear hcut hacc hdec ha;go_wp2;refine⟨⟨k+1,acc*16+(c.toNat-48),a*16+((c.toNat:Int)-48),rfl,(by first|rfl|(congr 1;omega)),(by first|rfl|(congr 1;omega)),by omega,HN⟩,by simp[intOf];omega⟩
   ·by_cases h95:c.toNat=95
    ·have hc95:c=95:=UInt8.toNat_inj.1 h95;subst hc95;have e95:((95:UInt8).toNat:Int)=95:=rfl;rw[e95]at hc
     have hd:zZ 95=none:=by decide
     have HD:=qd (hdec.trans (FH hd _ _))
     have e127:bits .or .u8 95 32=127:=by decide
     have OL:=qd (show∀W,Calls Tryz.prog 239 #[.int .u8 95] W fun e w'=>e= .returned (.int .u8 127)∧w'=W from fun W=>by rw[←e127];exact hLow.out 95 W);clear hacc ha hdec hd e127 e95 h95 hdig hc256;go_wp2_with (go_at_call 239;refine(OL.out _).mono ?_;rintro e w' ⟨rfl,rfl⟩);go_ret2;exact⟨K7 HD.out,hBel⟩
    have b95:((c.toNat:Int)==95)=false:=by rw[beq_eq_false_iff_ne];omega
    have hx0:=bits_lo_u8 .or (c.toNat:Int) 32;have hx1:=bits_hi_u8 .or (c.toNat:Int) 32
    have Nw:dR c=false:=by unfold dR;simp;omega
    have JY:zZ c=if 97≤bits .or .u8 (c.toNat:Int) 32∧bits .or .u8 (c.toNat:Int) 32≤102 then some ((bits .or .u8 (c.toNat:Int) 32).toNat-87)else none:=by rw[zZ,Nw];rfl
    have hlow:∀W,Calls Tryz.prog 239 #[.int .u8 (c.toNat:Int)] W fun e w'=>e= .returned (.int .u8 (bits .or .u8 (c.toNat:Int) 32))∧w'=W:=fun W=>hLow.out _ W;generalize bits .or .u8 (c.toNat:Int) 32=x at hx0 hx1 JY hlow;have OL:=qd hlow;clear hlow;by_cases h97:97≤x∧x≤102
    ·have hd:zZ c=some (x.toNat-87):=by rw[JY,if_pos h97]
     obtain⟨q1,q2⟩:=h97;by_cases hcut:1152921504606846976≤acc
     ·have HD:=qd (hdec.trans (Cu hd hcut _))
      have icut:1152921504606846976≤a:=by omega
      clear hcut hacc ha hdec hd JY Nw;go_wp2_with (go_at_call 239;refine(OL.out _).mono ?_;rintro e w' ⟨rfl,rfl⟩)
      all_goals (go_ret2;exact⟨FE HD.out,hBel⟩)
     ·have HN:Hid (a*16+(x-87)=((acc*16+(x.toNat-87):Nat):Int)∧acc*16+(x.toNat-87)<18446744073709551616∧fJ 0 bs=fJ (acc*16+(x.toNat-87)) (bs.drop (k+1))):=qd ⟨by omega,by omega,hdec.trans (Dy hd hcut _)⟩
      have icut:a<1152921504606846976:=by omega
      clear hcut hacc hdec ha hd JY Nw;go_wp2_with (go_at_call 239;refine(OL.out _).mono ?_;rintro e w' ⟨rfl,rfl⟩)
      all_goals refine⟨⟨k+1,acc*16+(x.toNat-87),a*16+(x-87),rfl,(by first|rfl|(congr 1;omega)),(by first|rfl|(congr 1;omega)),by omega,HN⟩,by simp[intOf];omega⟩
    ·have hd:zZ c=none:=by rw[JY,if_neg h97]
     have HD:=qd (hdec.trans (FH hd _ _));clear hacc ha hdec hd JY Nw;by_cases q1:x<97
     focus
      skip
     rotate_left
     focus
      by_cases q2:122<x
      focus
       skip
      rotate_left
      focus
       have q3:103≤x:=by omega
     all_goals
      go_wp2_with (go_at_call 239;refine(OL.out _).mono ?_;rintro e w' ⟨rfl,rfl⟩)
      all_goals (go_ret2;exact⟨K7 HD.out,hBel⟩)
  ·have hkk:k=t.size:=by omega
   subst hkk
   have hF:fJ acc (bs.drop t.size)= .ok acc:=by rw[List.drop_eq_nil_of_le (by omega)];rfl
   have HD:=qd (hdec.trans hF);subst ha;clear hacc hF a0 a1 hdec;go_wp2;go_ret2;exact⟨ZH HD.out,hBel⟩
end
section
variable {E : Nat → Addr} {w w' : World}
structure iF (E:Nat→Addr)(w:World):Prop where
 e13:dL E w 13
 syn:∃te pe,w.cell? ⟨24,0,none⟩=some (.iface te pe)
 rng:∃te pe,w.cell? ⟨25,0,none⟩=some (.iface te pe)
theorem iF.of_block (h:iF E w)(hb:∀k,k<w.heap.size→w'.heap[k]?=w.heap[k]?):iF E w':=by
 refine⟨h.e13.of_block hb, ?_, ?_⟩
 ·obtain⟨a,b,hm⟩:=h.syn;exact⟨a,b,(World.cell?_of_block (hb _ (World.block_lt_of_cell? w _ hm))).trans hm⟩
 ·obtain⟨a,b,hm⟩:=h.rng;exact⟨a,b,(World.cell?_of_block (hb _ (World.block_lt_of_cell? w _ hm))).trans hm⟩
theorem iF.below {B:Nat}(h:iF E w)(hb:Below B w w')(hB:w.heap.size≤B):iF E w':=h.of_block fun k hk=>hb.block k (by omega)
def WL (w:World)(r:Lib.NumEnd Nat)(e:Ending)(w':World):Prop:=
 match r with
 | .ok n=>e= .returned (.tuple #[.int .u64 n,.nilIface])∧Below w.heap.size w w'
 |_=>∃m p,e= .returned (.tuple #[.int .u64 m,.iface 359 p])∧Below w.heap.size w w'
theorem Q7 {T:TypeId}{s:ByteArray}(h:w'=w∨w'=Lib.bytesWorld w T s):Below w.heap.size w w':=by
 rcases h with rfl|rfl
 ·exact Below.refl _ _
 ·exact Lib.bytesWorld_below _ _ _
theorem FI (s:ByteArray)(w:World)(hs:s.size≤70000)(hN:iF E w):
  Calls Tryz.prog 128 #[.string s,.int .i64 10,.int .i64 64] w (WL w (Lib.parseUintB 64 s.data.toList)):=by
 obtain⟨t1,p1,h1⟩:=hN.syn;obtain⟨t2,p2,h2⟩:=hN.rng
 cases h:Lib.parseUintB 64 s.data.toList with
 |ok n=>exact(Tryz.strconv_ParseUint_10_at64_ok s (by omega) n h w).mono fun e w' ⟨he,hw⟩=>⟨he,Q7 hw⟩
 |range=>exact(Tryz.strconv_ParseUint_10_at64_range s (by omega) h _ w h2 (.inr ⟨_,_,rfl⟩)).mono fun e w' ⟨N,he,_,_,hb⟩=>⟨_,_,he,hb⟩
 |_=>exact(Tryz.strconv_ParseUint_10_at64_syntax s (by omega) h _ w h1 (.inr ⟨_,_,rfl⟩)).mono fun e w' ⟨N,he,_,_,hb⟩=>⟨_,_,he,hb⟩
theorem Q8 (s:ByteArray)(w:World)(hs:s.size≤70000):
  Calls Tryz.prog 194 #[.string s,.int .i64 16,.int .i64 64] w fun e w'=>I4 357 (p16 s.data.toList) e∧Below w.heap.size w w':=by
 by_cases h0:s.size=0
 ·have ht:s=⟨#[]⟩:=by
   apply ByteArray.ext;exact Array.eq_empty_of_size_eq_zero h0
  subst ht;exact(AnyPu.internal_strconv_ParseUint_empty {Tryz.laysPu14 with} 16 64 w).mono fun e w' ⟨he,hw⟩=>⟨he,hw▸Below.refl _ _⟩
 ·have hne:s.data.toList≠[]:=fun h=>h0 (by have:=congrArg List.length h;simpa using this);rw[p16,if_neg hne];exact OJ s h0 hs w
theorem Q9 (s:ByteArray)(w:World)(hs:s.size≤70000)(hN:iF E w):
  Calls Tryz.prog 128 #[.string s,.int .i64 16,.int .i64 64] w (WL w (p16 s.data.toList)):=by
 have hI:=Q8 s w hs
 cases h:p16 s.data.toList with
 |ok n=>
  rw[h]at hI;have HI:=qd (show Calls Tryz.prog 194 #[.string s,.int .i64 16,.int .i64 64] w fun e w'=>e= .returned (.tuple #[.int .u64 n,.nilIface])∧Below w.heap.size w w' from hI);clear h hI;go_in;go_wp2_with (go_at_call 194;refine HI.out.mono ?_;rintro e w1 ⟨rfl,hb1⟩);go_ret2;exact⟨rfl,hb1⟩
 |range=>
  rw[h]at hI;have HI:=qd (show Calls Tryz.prog 194 #[.string s,.int .i64 16,.int .i64 64] w fun e w'=>e= .returned (.tuple #[.int .u64 18446744073709551615,.iface 357 (.int .i64 1)])∧Below w.heap.size w w' from hI);have HN:=qd hN;clear h hI hN;go_in
  go_wp2_with (first
   |(go_at_call 194;refine HI.out.mono ?_;rintro e w1 ⟨rfl,hb1⟩;obtain⟨te,pe,hce⟩:=(HN.out.below hb1 (Nat.le_refl _)).rng)
   |(go_at_call 195;refine(AnyPu.strconv_toError_range {Tryz.laysPu14 with} ⟨#[80,97,114,115,101,85,105,110,116]⟩ s 16 64 _ _ (by omega) hce (.inr ⟨_,_,rfl⟩)).mono ?_;rintro e w2 ⟨N,rfl,_,_,hb2⟩))
  go_ret2;exact⟨_,_,rfl,hb1.trans (hb2.mono hb1.size)⟩
 |_=>
  rw[h]at hI;have HI:=qd (show Calls Tryz.prog 194 #[.string s,.int .i64 16,.int .i64 64] w fun e w'=>e= .returned (.tuple #[.int .u64 0,.iface 357 (.int .i64 2)])∧Below w.heap.size w w' from hI);have HN:=qd hN;clear h hI hN;go_in
  go_wp2_with (first
   |(go_at_call 194;refine HI.out.mono ?_;rintro e w1 ⟨rfl,hb1⟩;obtain⟨te,pe,hce⟩:=(HN.out.below hb1 (Nat.le_refl _)).syn)
   |(go_at_call 195;refine(AnyPu.strconv_toError_syntax {Tryz.laysPu14 with} ⟨#[80,97,114,115,101,85,105,110,116]⟩ s 16 64 _ _ (by omega) hce (.inr ⟨_,_,rfl⟩)).mono ?_;rintro e w2 ⟨N,rfl,_,_,hb2⟩))
  go_ret2;exact⟨_,_,rfl,hb1.trans (hb2.mono hb1.size)⟩
def xE (E:Nat→Addr)(w:World)(r:Option Nat)(e:Ending)(w':World):Prop:=
 match r with
 |some n=>e= .returned (.tuple #[.int .u64 n,.nilIface])∧Below w.heap.size w w'
 |none=>e= .returned (.tuple #[.int .u64 0,.iface 391 (.pointer (some (E 13)))])∧Below w.heap.size w w'
end
section
variable {E : Nat → Addr}
theorem OM {l:List UInt8}(hne:l≠[])(hall:∀b∈l,dR b=true):vS false l=true:=by
 unfold vS nR;have h1:l.all (uq false)=true:=List.all_eq_true.2 fun b hb=>hall b hb;rw[h1]
 cases l with
 |nil=>exact absurd rfl hne
 |cons _ _=>rfl
theorem head_data (s:ByteArray)(h:0<s.size):s.data.toList=s[0]::s.data.toList.drop 1:=by
 have h1:=List.drop_eq_getElem_cons (l:=s.data.toList) (i:=0) (by simpa using h);rw[List.drop_zero]at h1;exact h1
theorem FJ (s:ByteArray)(h:1<s.size):nH s.data.toList=(s[0] !=48):=by
 rw[head_data s (by omega)]
 cases h1:s.data.toList.drop 1 with
 |nil=>
  have:=congrArg List.length h1;simp at this;omega
 |cons a b=>rfl
theorem OO (s:ByteArray)(w:World)(hs:s.size≤70000)(hN:iF E w)(n:Nat)(h:dec s.data.toList=some n):
  Calls Tryz.prog 127 #[.string s] w (xE E w (some n)):=by
 obtain⟨hne,hall,hz,hv,hlt⟩:=xJ h;have hp:=FI s w hs hN;rw[VE _ hne,Hy _ 0 hall (by omega),←hv]at hp;have HP:=qd (show Calls Tryz.prog 128 #[.string s,.int .i64 10,.int .i64 64] w fun e w'=>e= .returned (.tuple #[.int .u64 n,.nilIface])∧Below w.heap.size w w' from hp);have HF:=qd (fun W=>vV s false W hs);have hf:=qd (OM hne hall)
 have h0:0<s.size:=by
  rcases Nat.eq_zero_or_pos s.size with q|q
  ·exact absurd (List.length_eq_zero_iff.1 (by simpa using q)) hne
  ·exact q
 by_cases h1:1<s.size
 focus
  have b1:(1:Int)<(s.size:Int):=by omega
  have hz':=FJ s h1;rw[hz]at hz';have b2:(((s[0]).toNat:Int)==48)=false:=ZG (by simpa using hz'.symm) (by decide);clear h hne hall hz hv hp hz'
 rotate_left
 focus
  have b1:¬(1:Int)<(s.size:Int):=by omega
  clear h hne hall hz hv hp
 all_goals
  go_in
  go_wp2_with (first
   |(go_at_call 128;refine HP.out.mono ?_;rintro e w1 ⟨rfl,hb1⟩)
   |(go_at_call 129;refine(HF.out _).mono ?_;rintro e w2 ⟨rfl,hb2⟩;rw[hf.out]))
  go_ret2;exact⟨rfl,hb1.trans (hb2.mono hb1.size)⟩
theorem OP (s:ByteArray)(w:World)(hs:s.size≤70000)(hN:iF E w)(h:dec s.data.toList=none):
  Calls Tryz.prog 127 #[.string s] w (xE E w none):=by
 have hd:=YA h;have hp:=FI s w hs hN
 cases hr:Lib.parseUintB 64 s.data.toList with
 |ok u=>
  have hne:s.data.toList≠[]:=fun e=>by rw[e]at hr;simp[Lib.parseUintB]at hr
  have hr':=hr;rw[VE _ hne]at hr';obtain⟨hall,hu⟩:=Hw _ _ _ hr';have hlt:=Lib.parseUint10_lt _ 0 u (by decide) hr';have hz:¬nH s.data.toList=true:=fun hz=>hd ⟨hne,hall,hz,by omega⟩
  have h1:1<s.size:=by
   rcases Nat.lt_or_ge 1 s.size with q|q
   ·exact q
   ·exfalso;apply hz
    cases hl:s.data.toList with
    |nil=>rfl
    |cons a r=>
     cases r with
     |nil=>rfl
     |cons b r=>have:=congrArg List.length hl;simp at this;omega
  rw[hr]at hp;have HP:=qd (show Calls Tryz.prog 128 #[.string s,.int .i64 10,.int .i64 64] w fun e w'=>e= .returned (.tuple #[.int .u64 u,.nilIface])∧Below w.heap.size w w' from hp);have HF:=qd (fun W=>vV s false W hs);have hf:=qd (OM hne hall)
  have b1:(1:Int)<(s.size:Int):=by omega
  rw[FJ s h1]at hz
  have b2:(((s[0]).toNat:Int)==48)=true:=by
   have:s[0]=48:=by simpa using hz
   rw[this];rfl
  have HN:=qd hN;clear h hne hall hz hp hd hr hr' hu hlt hN;go_in
  go_wp2_with (first
   |(go_at_call 128;refine HP.out.mono ?_;rintro e w1 ⟨rfl,hb1⟩)
   |(go_at_call 129;refine(HF.out _).mono ?_;rintro e w2 ⟨rfl,hb2⟩;rw[hf.out];have h3:=(((HN.out.below hb1 (Nat.le_refl _)).below hb2 (Nat.le_refl _)).e13);simp only[dL,gE]at h3))
  go_quiet (fail);go_wp2;go_ret2;exact⟨rfl,below_drewN (hb1.trans (hb2.mono hb1.size)) _⟩
 |_=>
  rw[hr]at hp;obtain HP:=qd (show Calls Tryz.prog 128 #[.string s,.int .i64 10,.int .i64 64] w fun e w'=>∃m p,e= .returned (.tuple #[.int .u64 m,.iface 359 p])∧Below w.heap.size w w' from hp);have HN:=qd hN;clear h hd hr hp hN;go_in
  go_wp2_with (first
   |(go_at_call 128;refine HP.out.mono ?_;rintro e w1 ⟨m,p,rfl,hb1⟩;have h3:=(HN.out.below hb1 (Nat.le_refl _)).e13;simp only[dL,gE]at h3))
  go_quiet (fail);go_wp2;go_ret2;exact⟨rfl,below_drewN hb1 _⟩
theorem MO (s:ByteArray)(w:World)(hs:s.size≤70000)(hN:iF E w):Calls Tryz.prog 127 #[.string s] w (xE E w (dec s.data.toList)):=by
 cases h:dec s.data.toList with
 |some n=>exact OO s w hs hN n h
 |none=>exact OP s w hs hN h
end
end Go.Proofs.YtjfgpnapccdnlaaGreatDoor
