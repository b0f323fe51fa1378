/- A snapshot's hashes, and that no key is there twice, by their contracts. No statement of the claim. -/
import Derived.Test.YtchlkhkeonnmdacGreatDoorSqT
import Derived.Test.YtchlkhkeonnmdacGreatDoorLaneP
import Derived.Test.YtchlkhkeonnmdacGreatDoorCoS
import Derived.Test.YtchlkhkeonnmdacGreatDoorSnT
import Derived.Test.YtchlkhkeonnmdacGreatDoorProg
import Derived.KernelRfl
import Derived.Test.YtchlkhkeonnmdacGreatDoorShelf
import Derived.Shelf.Strings.BuilderX
import Derived.Lib.Builder
import Derived.Lib.AppendStr
import Derived.WalkKit
import Derived.WalkSpells
import Derived.WalkLawsBesides
import Derived.Laws.Externs
import Derived.Outline
namespace Go.Proofs.YtchlkhkeonnmdacGreatDoor
set_option maxRecDepth 100000
set_option maxHeartbeats 4000000
open Go.RowKit AmC AmL
section
variable {w : World} {l : PL} {A : Option Addr} {c : Nat}
def MixWords (w:World):Prop:=∀k,k≤5→∃s:ByteArray,w.cell? ⟨8,k,none⟩=some (.string s)∧s.toList.isEmpty=false
theorem MixWords.below {w':World}(h:MixWords w)(hb:Below w.heap.size w w'):MixWords w':=fun k hk=>by
 obtain⟨s,h1,h2⟩:=h k hk;exact⟨s,cell_in hb h1,h2⟩
theorem mix_Word (k:Nat)(hk:k≤5)(s:ByteArray)(w:World)(hs:w.cell? ⟨8,k,none⟩=some (.string s)):
  Calls Tryz.prog 41 #[.int .i64 (k:Int)] w fun y w'=>y= .returned (.string s)∧w=w':=by
 have h1:¬(k:Int)<0:=by omega
 have h2:¬(5:Int)<(k:Int):=by omega
 have h3:(0:Int)≤(k:Int):=by omega
 have h4:(k:Int)<6:=by omega
 go_in;go_wp2;go_ret;exact⟨rfl,rfl⟩
def entM (kind:Nat)(p:Nat×Nat):Ent:=⟨p.1,p.2,mixH kind p.1⟩
theorem snap_Hashed {B:Nat}(hl:Reads w B 2 A l.length (l.flatMap pairC))(hn:l.length≤100000)(h64:∀p∈l,p.1<18446744073709551616)(kind:Nat)(hk:kind≤5)(hW:MixWords w):
  Calls Tryz.prog 18 #[.slice A l.length c,.int .i64 (kind:Int)] w fun y w'=>∃v',y= .returned (.tuple #[v',.nilIface])∧w'.ownsRow w.heap.size 59 3 v' l.length ((l.map (entM kind)).flatMap entCells)∧Below w.heap.size w w':=by
 obtain⟨s,hs,hne⟩:=hW kind hk;have HW:=qd (mix_Word kind hk s w hs);have HL:=qd hl;have HK:=qd (fun(p:Nat×Nat) (hp:p∈l) (W:World)=>mix_Of kind p.1 (h64 p hp) hk W);have HB:=qd (Below.refl w.heap.size w);have HO:=qd (World.ownsRow_nil w w.heap.size 59 3);clear hs hW hl h64;go_in;go_wp2_with fail;refine HW.out.mono ?_;rintro y wq ⟨rfl,rfl⟩;go_wp2;go_loopw [6,17] (fun v6 v17 wr=>∃i:Nat,i≤l.length∧v17= .int .i64 (i:Int)∧Hid (wr.ownsRow w.heap.size 59 3 v6 i (((l.take i).map (entM kind)).flatMap entCells))∧Hid (Below w.heap.size w wr)) (fun _ v17 _=>l.length-(intOf v17).toNat)
 case atStart=>exact⟨0,by omega,rfl,HO,HB⟩
 case round=>
  clear HB HO;obtain⟨i,hi,rfl,HO,HB⟩:=hrel;by_cases hlt:i<l.length
  ·have hlt':(i:Int)<(l.length:Int):=by omega
   have hi0:(0:Int)≤(i:Int):=by omega
   have hwi:IntKind.i64.wrap ((i:Int)+1)=((i+1:Nat):Int):=by rw[IntKind.wrap_i64];omega
   obtain⟨p,hp⟩:∃p,l[i]?=some p:=⟨_,List.getElem?_eq_getElem hlt⟩;obtain⟨g,off,hA,hgl,hc⟩:=HL.out.2 (by omega);have r0:wr.cell? ⟨g,off+i*2,none⟩=some (.int .u64 (p.1:Int)):=cell_in HB.out (hc (i*2+0) _ (pairC_at hp (by omega)));have r1:wr.cell? ⟨g,off+i*2+1,none⟩=some (.int .u64 (p.2:Int)):=cell_in HB.out (hc (i*2+1) _ (pairC_at hp (by omega)));have HKp:=qd (HK.out p (List.mem_of_getElem? hp));have HP:=qd hp;obtain⟨A6,c6,hv6⟩:=own_form HO.out;subst hA;subst hv6;clear hc hp;go_upto_region 7 with fail;refine nameW (F:=fun v=>Blk v wr.heap.size 29 #[.int .u64 (p.1:Int),.int .u64 (p.2:Int)]∧Below wr.heap.size wr v) ⟨Blk.new wr 29 #[.int .u64 (p.1:Int),.int .u64 (p.2:Int)],(Below.refl wr.heap.size wr).alloc (Nat.le_refl _) _⟩ ?_;rintro w6 ⟨hB6,hb6⟩;have HO6:=qd (own_below HO.out hb6 (Nat.le_refl _));have HB6:=qd (HB.out.trans (hb6.mono HB.out.size));obtain⟨bx,hbx⟩:∃bx,bx=wr.heap.size:=⟨_,rfl⟩;rw[←hbx]at hB6⊢;obtain⟨x0,x1⟩:=hB6.c2;clear hB6 hb6 hbx HO HB r0 r1;go_wp2_with fail;refine(HKp.out _).mono ?_;rintro y wq ⟨rfl,rfl⟩;have hrow6:=HO6.out;have hbs:=HB6.out.size;go_upto_region 10 with fail;go_wp2_with (at_builtin;refine wpList_append1 rfl rfl slty_Ent hrow6 rfl rfl rfl rfl rfl (by omega) (by omega) ?_;intro v7 w7 ho7 hg7)
   have HO7:=qd (show w7.ownsRow w.heap.size 59 3 v7 (i+1) (((l.take (i+1)).map (entM kind)).flatMap entCells)from by
    rw[List.take_add_one,HP.out]
    simpa[entCells,entM]using ho7)
   have HB7:=qd (HB6.out.trans (hg7.below.mono (by omega)));have HM:=qd (show l.length-(i+1)<l.length-i by omega);clear ho7 hg7 hrow6 HO6 HB6;go_wp2;go_roundw
   case measure=>simp[intOf];exact HM.out
   exact⟨i+1,by omega,rfl,HO7,HB7⟩
  ·obtain rfl:i=l.length:=by omega
   have hlt':¬(l.length:Int)<(l.length:Int):=by omega
   have hO:=HO.out;rw[List.take_of_length_le (Nat.le_refl _)]at hO;have HO2:=qd hO;obtain⟨A6,c6,hv6⟩:=own_form hO;subst hv6;clear hO HO;go_wp2;refine bodyPost_ret (v:= .tuple #[.slice A6 l.length c6,.nilIface]) (by simp[results,Tryz.results18,go_sem]) rfl ⟨_,rfl,HO2.out,HB.out⟩
theorem entCells_at {e:Ent}{q:Nat}:∀{l:List Ent} {i:Nat},l[i]?=some e→q<3→(l.flatMap entCells)[i*3+q]?=some ((entCells e)[q]!)
 | [],_,h,_=>by simp at h
 |x::l,0,h,hq=>by
  obtain rfl:=Option.some.inj h;rw[List.flatMap_cons,List.getElem?_append_left (by simp[entCells];omega)]
  have:q=0∨q=1∨q=2:=by omega
  rcases this with rfl|rfl|rfl<;>rfl
 |x::l,i+1,h,hq=>by
  rw[List.flatMap_cons,List.getElem?_append_right (by simp[entCells];omega)];have:=entCells_at (l:=l) (i:=i) h hq;rw[show(i+1)*3+q-(entCells x).length=i*3+q by simp[entCells];omega];exact this
theorem takeP (hnd:(l.map Prod.fst).Nodup){i:Nat}{p:Nat×Nat}(hp:l[i]?=some p):isP (allP (l.take i)) p.1=false∧getP (allP (l.take i)) p.1=none∧(allP (l.take i)).length=i∧allP (l.take (i+1))=putP (allP (l.take i)) p.1 p.2:=by
 have hlt:i<l.length:=(List.getElem?_eq_some_iff.1 hp).1;have hn1:((l.take i).map Prod.fst).Nodup:=hnd.sublist ((List.take_sublist i l).map _);have hm:=allP_mem hn1
 have hg:getP (allP (l.take i)) p.1=none:=by
  rw[getP_none];intro q hq he;have hq2:=(hm.1 q).1 hq;obtain⟨j,hj⟩:=List.getElem?_of_mem hq2;rw[List.getElem?_take]at hj;split at hj
  ·next hji=>
   have:=List.pairwise_iff_getElem.1 (show(l.map Prod.fst).Pairwise (·≠·)from hnd) j i (by simp;omega) (by simp;omega) hji;simp only[List.getElem_map]at this;obtain⟨_,rfl⟩:=List.getElem?_eq_some_iff.1 hj;obtain⟨_,rfl⟩:=List.getElem?_eq_some_iff.1 hp;exact this he
  ·cases hj
 refine⟨?_,hg,by rw[hm.2,List.length_take];omega, ?_⟩
 ·rw[isP_get (allP_asc _),hg];rfl
 ·rw[List.take_add_one,hp];exact allP_snoc _ _
theorem snap_twice {kind:Nat}{base:Nat}(ho:w.ownsRow base 59 3 (.slice A l.length c) l.length ((l.map (entM kind)).flatMap entCells))(hn:l.length≤90000)(hnd:(l.map Prod.fst).Nodup):
  Calls Tryz.prog 19 #[.slice A l.length c] w fun y w'=>y= .returned (.bool false)∧Below w.heap.size w w':=by
 have HNw:=qd (pl_New l.length w);have HO:=qd ho;have HND:=qd hnd;clear ho hnd;go_in;go_wp2_with fail;refine HNw.out.mono ?_;rintro y w1 ⟨rfl,hf1,hb1⟩;obtain⟨fb,hfb⟩:∃fb,fb=w.heap.size:=⟨_,rfl⟩;have HF:=qd (show∃F,PlF w.heap.size w1 fb l.length F (allP (l.take 0))from⟨_,by rw[hfb];exact hf1⟩);have HB:=qd hb1;rw[←hfb];clear hf1 hb1 hfb HNw;go_wp2;go_loopw [2,13] (fun _ v13 wr=>∃i:Nat,i≤l.length∧v13= .int .i64 (i:Int)∧Hid (∃F,PlF w.heap.size wr fb l.length F (allP (l.take i)))∧Hid (Below w.heap.size w wr)) (fun _ v13 _=>l.length-(intOf v13).toNat)
 case atStart=>exact⟨0,by omega,rfl,HF,HB⟩
 case round=>
  clear HB HF;obtain⟨i,hi,rfl,HF,HB⟩:=hrel;by_cases hlt:i<l.length
  ·have hlt':(i:Int)<(l.length:Int):=by omega
   have hi0:(0:Int)≤(i:Int):=by omega
   have hwi:IntKind.i64.wrap ((i:Int)+1)=((i+1:Nat):Int):=by rw[IntKind.wrap_i64];omega
   obtain⟨p,hp⟩:∃p,l[i]?=some p:=⟨_,List.getElem?_eq_getElem hlt⟩
   have hpe:(l.map (entM kind))[i]?=some (entM kind p):=by rw[List.getElem?_map,hp];rfl
   obtain⟨g,off,hA,hgl,hc⟩:=(Reads.of_own (own_below HO.out HB.out (Nat.le_refl _))).2 (by omega);have r0:wr.cell? ⟨g,off+i*3,none⟩=some (.int .u64 (p.1:Int)):=hc (i*3+0) _ (entCells_at hpe (by omega));have r1:wr.cell? ⟨g,off+i*3+1,none⟩=some (.int .u64 (p.2:Int)):=hc (i*3+1) _ (entCells_at hpe (by omega));have r2:wr.cell? ⟨g,off+i*3+2,none⟩=some (.int .u64 (mixH kind p.1:Int)):=hc (i*3+2) _ (entCells_at hpe (by omega));obtain⟨t1,t2,t3,t4⟩:=takeP HND.out hp;have HTk:=qd (And.intro t1 (And.intro t2 (And.intro t3 t4)));subst hA;clear hc hp hpe t1 t2 t3 t4;go_upto_region 5 with fail;refine nameW (F:=fun v=>Blk v wr.heap.size 59 #[.int .u64 (p.1:Int),.int .u64 (p.2:Int),.int .u64 (mixH kind p.1:Int)]∧Below wr.heap.size wr v) ⟨Blk.new wr 59 #[.int .u64 (p.1:Int),.int .u64 (p.2:Int),.int .u64 (mixH kind p.1:Int)],(Below.refl wr.heap.size wr).alloc (Nat.le_refl _) _⟩ ?_;rintro w6 ⟨hB6,hb6⟩;obtain⟨F6,hF6⟩:=HF.out;have hF6':=hF6.below hb6;obtain⟨bx,hbx⟩:∃bx,bx=wr.heap.size:=⟨_,rfl⟩;have HBx:=qd (show bx∉F6 from fun hq=>by have:=(hF6.lts bx hq).1;omega);rw[←hbx]at hB6⊢;obtain⟨x0,x1⟩:=hB6.c2;have HX6:=qd hB6;have HF6:=qd hF6';have HB6:=qd (HB.out.trans (hb6.mono HB.out.size));have hG:=pl_Get hF6' (by rw[HTk.out.2.2.1];omega) p.1;rw[HTk.out.2.1]at hG;have HG:=qd hG;clear hB6 hb6 hbx hF6 hF6' hG HF HB r0 r1 r2;go_wp2_with fail;refine HG.out.mono ?_;rintro y w7 ⟨rfl,hb7⟩;have hF7:=HF6.out.below hb7;have hX7:=HX6.out.below hb7 HX6.out.lt;obtain⟨x0,x1⟩:=hX7.c2
   have HPu:=qd (pl_Put hF7 (by rw[HTk.out.2.2.1];omega) p.1 p.2 (fun _=>by rw[HTk.out.2.2.1];omega) (by omega));have HB7:=qd (HB6.out.trans (hb7.mono HB6.out.size));have HF7:=qd hF7;clear hb7 hF7 hX7 HB6 HF6 HG HX6;go_wp2_with fail;refine HPu.out.mono ?_;rintro y w8 ⟨rfl,F8,hF8,hs8,hm8⟩;have HF8:=qd (show∃F,PlF w.heap.size w8 fb l.length F (allP (l.take (i+1)))from⟨F8,by rw[HTk.out.2.2.2];exact hF8⟩);have HB8:=qd (HB7.out.trans (hm8.below (fun q hq=>(HF7.out.lts q hq).2) HB7.out.size));have HM:=qd (show l.length-(i+1)<l.length-i by omega);clear hF8 hs8 hm8 HPu HB7;go_wp2;go_roundw
   case measure=>simp[intOf];exact HM.out
   exact⟨i+1,by omega,rfl,HF8,HB8⟩
  ·obtain rfl:i=l.length:=by omega
   have hlt':¬(l.length:Int)<(l.length:Int):=by omega
   go_wp2;go_ret;exact⟨rfl,HB.out⟩
end
section
variable {W0 w : World} {E : Nat → Addr} {l : PL}
structure Fill (W0:World)(E:Nat→Addr)(H:Nat→Nat)(K M I b:Nat)(w0 w:World)(G:List Nat)(l:PL)(i:Nat)(v:Value)(n:Nat)(xs:List Value):Prop where
 map:∃R,MpAt W0 E H K M I b G w R i [] 0∧∀k u,R k=some u↔(k,u)∈l.take i
 row:w.ownsRow w0.heap.size 59 3 v n xs
 apart:∀q∈v.ownBlock.toList,q∉G
 from_:∀q∈G,w0.heap.size≤q
 below:Below w0.heap.size w0 w
theorem Fill.step {H:Nat→Nat}{K M I b:Nat}{w0 w':World}{G:List Nat}{i n:Nat}{v:Value}{xs:List Value}{p:Nat×Nat}{R R':Nat→Option Nat}(h:Fill W0 E H K M I b w0 w G l i v n xs)(hp:l[i]?=some p)(hR:∀k u,R k=some u↔(k,u)∈l.take i)(hn:R p.1=none)(hR':R'=fun x=>if x=p.1 then some p.2 else R x)(hto:MpTo W0 E H K M I b G w w' R' (i+1) [] 0):∃G',Fill W0 E H K M I b w0 w' G' l (i+1) v n xs:=by
 obtain⟨G',h1,h2,h3⟩:=hto;have hsz:=h.below.size;have hlt:∀q∈v.ownBlock.toList,q<w.heap.size:=fun q hq=>(h.row.lt q (by simpa using hq)).2;refine⟨G',⟨R',h1,fun k u=> ?_⟩,own_farK h.row h3 h.apart,fun q hq hg=> ?_,fun q hq=> ?_,h.below.trans (h3.below (fun q hq=>h.from_ q hq) hsz)⟩
 ·rw[hR',List.take_add_one,hp];simp only[Option.toList_some,List.mem_append,List.mem_singleton];by_cases hk:k=p.1
  ·rw[if_pos hk];constructor
   ·intro e;refine .inr ?_;rw[←Option.some.inj e,hk]
   ·rintro(e|e)
    ·have:=(hR k u).2 e;rw[hk,hn]at this;cases this
    ·rw[←e]
  ·rw[if_neg hk,hR];constructor
   ·exact .inl
   ·rintro(e|e)
    ·exact e
    ·exact absurd (congrArg Prod.fst e) hk
 ·rcases h2 q hg with k|k
  ·exact h.apart q hq k
  ·have:=hlt q hq;omega
 ·rcases h2 q hq with k|k
  ·exact h.from_ q k
  ·omega
theorem snap_Load (hE:Env W0 E w)(hW:MixWords w)(k m i:Int)(hcf:cfgOk k m i=true)(K M I:Nat)(hkm:(1≤K∧K≤64)∧(1≤M∧M≤192)∧k=(K:Int)∧m=(M:Int)∧i=(I:Int))(hi8:1≤I∧I≤8){A:Option Addr}{c B:Nat}(hl:Reads w B 2 A l.length (l.flatMap pairC))(hM:l.length≤M)(h64:∀p∈l,p.1<18446744073709551616∧p.2<18446744073709551616)(hnd:(l.map Prod.fst).Nodup)(kind:Nat)(hk:kind≤5):
  Calls Tryz.prog 8 #[cfgV k m i,.slice A l.length c,.int .i64 (kind:Int)] w fun y w'=>∃b G,y= .returned (.tuple #[.pointer (some ⟨b,0,none⟩),.nilIface])∧(∃R,MpAt W0 E (mixH kind) K M I b G w' R l.length [] 0∧∀k u,R k=some u↔(k,u)∈l)∧(∀q∈G,w.heap.size≤q)∧Below w.heap.size w w':=by
 have HH:=qd (fun(W:World) (hb:Below w.heap.size w W)=>snap_Hashed (w:=W) (c:=c) (⟨hl.1,fun hn=>by
  obtain⟨b,off,h1,h2,h3⟩:=hl.2 hn
  exact⟨b,off,h1,h2,fun j u hu=>cell_in hb (h3 j u hu)⟩⟩:Reads W B 2 A l.length (l.flatMap pairC)) (by omega) (fun p hp=>(h64 p hp).1) kind hk (hW.below hb))
 have HT:=qd (fun(W:World) (c:Nat) (A':Option Addr) (base:Nat) (ho:W.ownsRow base 59 3 (.slice A' l.length c) l.length ((l.map (entM kind)).flatMap entCells))=>snap_twice ho (by omega) hnd);have HN:=qd (fun(W:World) (hE:Env W0 E W)=>mp_New (mixH kind) hE k m i hcf K M I hkm hi8)
 have hl192:l.length≤192:=by omega
 have HE:=qd hE;have HX:=qd (And.intro h64 (And.intro hnd hM));clear hl hW hE hnd hcf hkm h64;unfold cfgV at*;go_in;go_upto_region 1 with fail;refine nameW (F:=fun v=>Blk v w.heap.size 39 #[.int .i64 k,.int .i64 m,.int .i64 i]∧Below w.heap.size w v) ⟨Blk.new w 39 #[.int .i64 k,.int .i64 m,.int .i64 i],(Below.refl w.heap.size w).alloc (Nat.le_refl _) _⟩ ?_;rintro w1 ⟨hB1,hb1⟩;obtain⟨bc,hbc⟩:∃bc,bc=w.heap.size:=⟨_,rfl⟩;have HB1:=qd hb1;have HC1:=qd (show Blk w1 bc 39 #[.int .i64 k,.int .i64 m,.int .i64 i]from by rw[hbc];exact hB1);rw[←hbc];have HBc:=qd hbc;have HH1:=qd (HH.out w1 hb1);clear hB1 hb1 hbc HH;go_wp2_with fail;refine HH1.out.mono ?_;rintro y w2 ⟨v',rfl,ho2,hb2⟩;obtain⟨A2,c2,rfl⟩:=own_form ho2;have HO2:=qd ho2;have HC2:=qd (HC1.out.below hb2 HC1.out.lt);have HB2:=qd (HB1.out.trans (hb2.mono HB1.out.size));have HT2:=qd (HT.out w2 c2 A2 _ ho2);clear ho2 hb2 HH1 HT HC1;go_wp2_with fail;refine HT2.out.mono ?_;rintro y w3 ⟨rfl,hb3⟩;have HO3:=qd (own_below HO2.out hb3 (Nat.le_refl _));have hC3:=HC2.out.below hb3 HC2.out.lt;have HB3:=qd (HB2.out.trans (hb3.mono HB2.out.size));obtain⟨x0,x1,x2⟩:=hC3.c3;have HN3:=qd (HN.out w3 (HE.out.next HB3.out));clear hb3 hC3 HT2 HC2 HN;go_wp2_with fail;refine HN3.out.mono ?_;rintro y w4 ⟨b,G,rfl,hA4,hG4,hb4⟩
 have HF:=qd (show Fill W0 E (mixH kind) K M I b w w4 G l 0 (.slice A2 l.length c2) l.length ((l.map (entM kind)).flatMap entCells)from by
  have ho4:=own_below HO3.out hb4 (Nat.le_refl _)
  exact⟨⟨_,hA4,fun k u=>by simp⟩,own_lowK ho4 HB1.out.size,fun q hq hg=>by have:=(HO3.out.lt q (by simpa using hq)).2;have:=hG4 q hg;omega,fun q hq=>by have:=hG4 q hq;have:=HB3.out.size;omega,HB3.out.trans (hb4.mono HB3.out.size)⟩)
 clear hA4 hG4 hb4 HN3 HO3 HO2 HB3 x0 x1 x2;go_wp2;go_loopw [36] (fun v36 wr=>∃(j:Nat) (G:List Nat),j≤l.length∧v36= .int .i64 (j:Int)∧Hid (Fill W0 E (mixH kind) K M I b w wr G l j (.slice A2 l.length c2) l.length ((l.map (entM kind)).flatMap entCells))) (fun v36 _=>l.length-(intOf v36).toNat)
 case atStart=>exact⟨0,G,by omega,rfl,HF⟩
 case round=>
  clear HF;obtain⟨j,G,hj,rfl,HF⟩:=hrel;by_cases hlt:j<l.length
  ·have hlt':(j:Int)<(l.length:Int):=by omega
   have hj0:(0:Int)≤(j:Int):=by omega
   have hwj:IntKind.i64.wrap ((j:Int)+1)=((j+1:Nat):Int):=by rw[IntKind.wrap_i64];omega
   obtain⟨p,hp⟩:∃p,l[j]?=some p:=⟨_,List.getElem?_eq_getElem hlt⟩
   have hpe:(l.map (entM kind))[j]?=some (entM kind p):=by rw[List.getElem?_map,hp];rfl
   obtain⟨g,off,hA,hgl,hc⟩:=(Reads.of_own HF.out.row).2 (by omega);have r0:wr.cell? ⟨g,off+j*3,none⟩=some (.int .u64 (p.1:Int)):=hc (j*3+0) _ (entCells_at hpe (by omega));have r1:wr.cell? ⟨g,off+j*3+1,none⟩=some (.int .u64 (p.2:Int)):=hc (j*3+1) _ (entCells_at hpe (by omega));have r2:wr.cell? ⟨g,off+j*3+2,none⟩=some (.int .u64 (mixH kind p.1:Int)):=hc (j*3+2) _ (entCells_at hpe (by omega));have hpm:=List.mem_of_getElem? hp;have HP:=qd (And.intro hp (HX.out.1 p hpm));subst hA;clear hc hp hpe hpm;go_upto_region 12 with fail;refine nameW (F:=fun v=>Blk v wr.heap.size 59 #[.int .u64 (p.1:Int),.int .u64 (p.2:Int),.int .u64 (mixH kind p.1:Int)]∧Below wr.heap.size wr v) ⟨Blk.new wr 59 #[.int .u64 (p.1:Int),.int .u64 (p.2:Int),.int .u64 (mixH kind p.1:Int)],(Below.refl wr.heap.size wr).alloc (Nat.le_refl _) _⟩ ?_;rintro w6 ⟨hB6,hb6⟩
   have HF6:=qd (show Fill W0 E (mixH kind) K M I b w w6 G l j (.slice (some ⟨g,off,none⟩) l.length c2) l.length ((l.map (entM kind)).flatMap entCells)from by
    obtain⟨⟨R,h1,h2⟩,h3,h4,h5,h6⟩:=HF.out
    exact⟨⟨R,h1.below hb6,h2⟩,own_below h3 hb6 (Nat.le_refl _),h4,h5,h6.trans (hb6.mono h6.size)⟩)
   obtain⟨bx,hbx⟩:∃bx,bx=wr.heap.size:=⟨_,rfl⟩;rw[←hbx]at hB6⊢;obtain⟨x0,x1,x2⟩:=hB6.c3;obtain⟨R,hR1,hR2⟩:=HF6.out.map
   have hnone:R p.1=none:=by
    cases hr:R p.1 with
    |none=>rfl
    |some u=>
     obtain⟨t1,t2,_,_⟩:=takeP HX.out.2.1 HP.out.1;have h1:=(hR2 p.1 u).1 hr;have h2:=(allP_mem (HX.out.2.1.sublist ((List.take_sublist j l).map Prod.fst))).1 (p.1,u);have h3:=(getP_mem (allP_asc _)).2 (h2.2 h1);rw[t2]at h3;cases h3
   have hroom:noRoom M (R p.1) j=false:=by rw[hnone];unfold noRoom;have:=HX.out.2.2;simp;omega
   have hpt:=mp_Put hR1 (entM kind p) ⟨rfl,mixH_lt _ _,HP.out.2.1,HP.out.2.2⟩;rw[show(entM kind p).key=p.1 from rfl,show(entM kind p).val=p.2 from rfl,show(entM kind p).hash=mixH kind p.1 from rfl,hroom,show putN M (R p.1) j=j+1 from by rw[hnone];unfold putN;have:=HX.out.2.2;rw[if_neg];simp;omega]at hpt;simp only[Bool.false_eq_true,if_false,errV_zero]at hpt;have HPt:=qd hpt;have HR:=qd (And.intro hR2 (And.intro hnone (show putF M R j p.1 p.2=fun x=>if x=p.1 then some p.2 else R x from by unfold putF;rw[hroom];rfl)));clear hpt hB6 hb6 hbx hR1 hR2 hnone hroom HF r0 r1 r2;go_wp2_with fail;refine HPt.out.mono ?_;rintro y w7 ⟨rfl,hto⟩;obtain⟨G7,hF7⟩:=HF6.out.step HP.out.1 HR.out.1 HR.out.2.1 HR.out.2.2 hto;have HF7:=qd hF7;have HM:=qd (show l.length-(j+1)<l.length-j by omega);clear hto hF7 HPt HF6;go_wp2;go_roundw
   case measure=>simp[intOf];exact HM.out
   exact⟨j+1,G7,by omega,rfl,HF7⟩
  ·obtain rfl:j=l.length:=by omega
   have hlt':¬(l.length:Int)<(l.length:Int):=by omega
   have HFin:=qd (show(∃R,MpAt W0 E (mixH kind) K M I b G wr R l.length [] 0∧∀k u,R k=some u↔(k,u)∈l)∧(∀q∈G,w.heap.size≤q)∧Below w.heap.size w wr from by
    obtain⟨⟨R,h1,h2⟩,_,_,h5,h6⟩:=HF.out;rw[List.take_of_length_le (Nat.le_refl _)]at h2
    exact⟨⟨R,h1,h2⟩,h5,h6⟩)
   clear HF;go_wp2;refine bodyPost_ret (v:= .tuple #[.pointer (some ⟨b,0,none⟩),.nilIface]) (by simp[results,Tryz.results8,go_sem]) rfl (by first|exact⟨_,_,rfl,HFin.out⟩|exact⟨_,rfl,_,HFin.out⟩|exact⟨_,HFin.out⟩)
end
section
variable {w w' : World} {b base n : Nat} {u v v' : Value}
abbrev Bts:=List UInt8
def strV (l:Bts):Value:= .string ⟨l.toArray⟩
theorem strV_data (s:ByteArray):strV s.data.toList= .string s:=by unfold strV;congr 1
def IntsOwn (w:World)(base:Nat)(v:Value)(l:List Nat):Prop:=w.ownsRow base 3 1 v l.length (l.map fun n:Nat=>Value.int .i64 (n:Int))
def StrsOwn (w:World)(base:Nat)(v:Value)(l:List Bts):Prop:=w.ownsRow base 9 1 v l.length (l.map strV)
theorem StrsOwn.append {l:List Bts}{s:ByteArray}(h:w.ownsRow base 9 1 v (l.length+1) (l.map strV++[.string s])):StrsOwn w base v (l++[s.data.toList]):=by
 unfold StrsOwn;rw[List.length_append,List.map_append];simpa[strV_data]using h
theorem IntsOwn.append {l:List Nat}(h:w.ownsRow base 3 1 v (l.length+1) ((l.map fun n:Nat=>Value.int .i64 (n:Int))++[.int .i64 (n:Int)])):IntsOwn w base v (l++[n]):=by
 unfold IntsOwn;rw[List.length_append,List.map_append];simpa using h
theorem StrsOwn.new (hb:base≤w.heap.size):StrsOwn (w.alloc (.cells #[] 9)) base (.slice (some ⟨w.heap.size,0,none⟩) 0 0) []:=
 World.ownsRow_made w #[] 0 hb (by simp[maxLen]) (by simp)
theorem IntsOwn.alloc {l:List Nat}(h:IntsOwn w base v l)(o:Obj):IntsOwn (w.alloc o) base v l:=World.ownsRow.alloc h o
theorem StrsOwn.alloc {l:List Bts}(h:StrsOwn w base v l)(o:Obj):StrsOwn (w.alloc o) base v l:=World.ownsRow.alloc h o
def lineCells (L:List (Nat×List Bts))(vs:List Value):List Value:=(List.zipWith (fun(p:Nat×List Bts) u=> [Value.int .i64 (p.1:Int),u]) L vs).flatten
end
section
variable {B b : Nat} {l : List UInt8} {w w' : World}
def TxtAt (B b:Nat)(l:List UInt8)(w:World):Prop:=Lib.IsBuilder 93 5 B b (Lib.byteCells l) w
theorem TxtAt.new (w:World):TxtAt w.heap.size w.heap.size [] (w.alloc (.cells #[.pointer none,.slice none 0 0] 93)):=Lib.fresh_isBuilder _ _ w
theorem TxtAt.parts (h:TxtAt B b l w):∃p,Lib.BuilderAt 93 5 B b p (Lib.byteCells l) w:=by
 rcases h with h|h
 ·exact⟨_,h⟩
 ·exact⟨_,h⟩
theorem txtAt_grown {T e:Nat}{p:Value}{bs:List Value}(h:Lib.BuilderAt T e B b p bs w)(hb:Below w.heap.size w w'):Lib.BuilderAt T e B b p bs w':=by
 have hlt:=h.lt;obtain⟨hB,v,h1,h2,h3⟩:=h;exact⟨hB,v,(hb.block b hlt).trans h1,own_below h2 hb (Nat.le_refl _),h3⟩
theorem TxtAt.below (h:TxtAt B b l w)(hb:Below w.heap.size w w'):TxtAt B b l w':=by
 rcases h with h|h
 ·exact .inl (txtAt_grown h hb)
 ·exact .inr (txtAt_grown h hb)
theorem TxtAt.alloc (h:TxtAt B b l w)(o:Obj):TxtAt B b l (w.alloc o):=h.below ((Below.refl _ _).alloc (Nat.le_refl _) o)
theorem TxtAt.le (h:TxtAt B b l w):B≤w.heap.size:=by
 obtain⟨p,h1⟩:=h.parts;have:=h1.lt;have:=h1.1;omega
theorem builder_size:(Tryz.prog.info? 93).map (·.size)=some 2:=by kernel_rfl
theorem builder_lies:liesAt Tryz.prog Tryz.prog.depth 93 (2/Tryz.prog.cellsOf 93) 0 93 1=true:=by kernel_rfl
theorem info_byte:(Tryz.prog.info? 5).map (fun i=>(i.zero,i.size,i.bytes))=some (some (.int .u8 0),1,1):=by kernel_rfl
theorem copyCheck_used (b:Nat)(w:World)(h0:w.cell? ⟨b,0,none⟩=some (.pointer (some ⟨b,0,none⟩))):
  Calls Tryz.prog 67 #[.pointer (some ⟨b,0,none⟩)] w fun e w'=>e= .returned (.tuple #[])∧w'=w:=by
 obtain⟨j,hj,_⟩:=Option.map_eq_some_iff.1 builder_size;go_in;go_wp2;rw[Lib.run_neq_ptr_same w _ Tryz.underlying91 hj];go_wp2;go_end0;exact⟨rfl,rfl⟩
theorem copyCheck_fresh (b:Nat)(w:World)(h0:w.cell? ⟨b,0,none⟩=some (.pointer none))(hsh:w.shape? b=some (93,2))(hfz:w.frozen? ⟨b,0,none⟩=false):
  Calls Tryz.prog 67 #[.pointer (some ⟨b,0,none⟩)] w fun e w'=>e= .returned (.tuple #[])∧w'=w.setCell ⟨b,0,none⟩ (.pointer (some ⟨b,0,none⟩)):=by
 obtain⟨j,hj,hjs⟩:=Option.map_eq_some_iff.1 builder_size;go_in;go_wp2;rw[Lib.run_to_unsafe w ⟨b,0,none⟩ Tryz.underlying91 Tryz.underlying200 hj (by rw[hjs];decide) hsh (Nat.zero_lt_succ 1)];simp only[Result.andThen];rw[Oper.upon_value];go_wp2;rw[run_callFunc_extern Tryz.func104 (by kernel_rfl) (by kernel_rfl) (by kernel_rfl) (e:=Extern.AbiNoEscape.same) (by kernel_rfl)];rw[Lib.run_noEscape];simp only[Result.andThen];rw[Oper.upon_value];go_wp2;rw[Lib.run_from_unsafe w ⟨b,0,none⟩ Tryz.underlying200 Tryz.underlying91 hj hsh builder_lies];simp only[Result.andThen];rw[Oper.upon_value];go_wp2;go_end0;exact⟨rfl,rfl⟩
theorem builder_copyCheckF (B b:Nat)(bs:List Value)(w:World)(h:Lib.IsBuilder 93 5 B b bs w):
  Calls Tryz.prog 67 #[.pointer (some ⟨b,0,none⟩)] w fun e w'=>e= .returned (.tuple #[])∧(Lib.BuilderAt 93 5 B b (.pointer (some ⟨b,0,none⟩)) bs w'∧Below B w w'∧∀k,k≠b→w'.heap[k]?=w.heap[k]?):=by
 rcases h with h|h
 ·refine(copyCheck_fresh b w h.cell0 h.shape h.frozen0).mono ?_;rintro e w' ⟨rfl,rfl⟩;exact⟨rfl,h.used _,(Below.refl B w).setCell (p:=⟨b,0,none⟩) h.1 _,fun k hk=>Below.heap_setCell w ⟨b,0,none⟩ _ k hk⟩
 ·refine(copyCheck_used b w h.cell0).mono ?_;rintro e w' ⟨rfl,rfl⟩;exact⟨rfl,h,Below.refl B _,fun _ _=>rfl⟩
theorem builder_textF (B b:Nat)(l:List UInt8)(s:ByteArray)(w:World)(h:TxtAt B b l w)(hlen:l.length≤33554432)(hs:s.size≤33554432):
  Calls Tryz.prog 34 #[.pointer (some ⟨b,0,none⟩),.string s] w fun e w'=>e= .returned (.tuple #[.int .i64 s.size,.nilIface])∧(TxtAt B b (l++s.data.toList) w'∧Below B w w'∧∀(g:Nat) (t:TypeId) (cs:Array Value),Blk w g t cs→t≠93 →t≠5 →Blk w' g t cs):=by
 have hBw:=h.le
 have hT0:∃cs0,Blk w b 93 cs0:=by
  rcases h with h|h
  ·obtain⟨_,v,hb,_⟩:=h;exact⟨_,hb⟩
  ·obtain⟨_,v,hb,_⟩:=h;exact⟨_,hb⟩
 obtain⟨i0,hi,hz0,hz1,hz2⟩:=info_parts info_byte;have hbl:=Lib.byteCells_length l
 have hbn:Lib.byteCells (l++s.data.toList)=Lib.byteCells l++Lib.strCells s:=by rw[Lib.byteCells_append,Lib.strCells_eq]
 unfold TxtAt at h;unfold TxtAt;rw[hbn];generalize Lib.byteCells l=bs at*
 have hlen':bs.length≤33554432:=by omega
 clear hbn hbl hlen;go_in;go_wp2_with (go_at_call 67;refine(builder_copyCheckF B b bs _ h).mono ?_);rintro e w1 ⟨rfl,h1,hb1,hk1⟩;obtain⟨hB,v,hbk,hown,hne⟩:=h1
 have c0:w1.cell? ⟨b,0,none⟩=some (.pointer (some ⟨b,0,none⟩)):=by rw[Lib.cell_of_heap hbk];rfl
 have c1:w1.cell? ⟨b,1,none⟩=some v:=by rw[Lib.cell_of_heap hbk];rfl
 go_wp2_with (at_builtin;refine Lib.wpList_append_own_string _ rfl _ _ 68 9 rfl B 5 i0 Tryz.underlying68 Tryz.underlying9 hi hz0 hz1 hz2 _ _ _ rfl hown s rfl ?c3 ?c4 ?c5 ?_)
 case c3=>unfold maxLen;omega
 case c4=>omega
 case c5=>have:=hb1.size;omega
 intro v' w2 hown' hgrow _
 have hlt:b<w1.heap.size:=by
  rcases Nat.lt_or_ge b w1.heap.size with h'|h'
  ·exact h'
  ·simp[Array.getElem?_eq_none h']at hbk
 have hb2:w2.heap[b]?=some (.cells #[.pointer (some ⟨b,0,none⟩),v] 93 (0,0)):=by
  rw[hgrow.block b hlt (fun e=>hne e.symm)];exact hbk
 have d0:w2.cell? ⟨b,0,none⟩=some (.pointer (some ⟨b,0,none⟩)):=by rw[Lib.cell_of_heap hb2];rfl
 have d1:w2.cell? ⟨b,1,none⟩=some v:=by rw[Lib.cell_of_heap hb2];rfl
 have f1:w2.frozen? ⟨b,1,none⟩=false:=Lib.frozen_of_heap hb2 1
 obtain⟨ao,n',cap,rfl⟩:∃ao n' cap,v'= .slice ao n' cap:=by
  rcases hown'.2 with⟨hv,_⟩|⟨g,cap,cur,hv,_⟩
  ·exact⟨_,_,_,hv⟩
  ·exact⟨_,_,_,hv⟩
 go_wp2;go_ret2;refine⟨rfl,.inr ?_, ?_,fun g t cs hg ht1 ht2=> ?_⟩
 ·exact Lib.BuilderAt.put (T:=93) (e:=5) hB hb2 (bs':=bs++Lib.strCells s) (by simpa[Lib.strCells_length]using hown') (by decide)
 ·exact(hb1.grown hgrow (by have:=hb1.size;omega) (fun k hk=>(hown.lt k hk).1)).setCell (p:=⟨b,1,none⟩) hB _
 ·have hgb:g≠b:=by
   rintro rfl;obtain⟨cs0,h0⟩:=hT0;have h1:some (Obj.cells cs0 93 (0,0))=some (.cells cs t (0,0)):=h0.symm.trans hg
   injection h1 with h1
   injection h1 with _ h1 _
   exact ht1 h1.symm
  have hg1:Blk w1 g t cs:=(hk1 g hgb).trans hg
  have hg2:Blk w2 g t cs:=hg1.grown hgrow (fun e=>by
   rcases hown.2 with⟨rfl,_⟩|⟨g',cap',cur',rfl,_,hh,_⟩
   ·cases e
   ·have e':g=g':=by simpa[Value.ownBlock]using e
    subst e';have h1:some (Obj.cells cur' 5 (0,0))=some (.cells cs t (0,0)):=hh.symm.trans hg1
    injection h1 with h1
    injection h1 with _ h1 _
    exact ht2 h1.symm)
  exact(Below.heap_setCell w2 ⟨b,1,none⟩ _ g hgb).trans hg2
end
end Go.Proofs.YtchlkhkeonnmdacGreatDoor
