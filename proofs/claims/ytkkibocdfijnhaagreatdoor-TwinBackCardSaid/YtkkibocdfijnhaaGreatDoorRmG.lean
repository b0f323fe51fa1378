/- Going over a map by an iterator: what it has passed, step by step. No statement of the claim. -/
import Derived.Test.YtkkibocdfijnhaaGreatDoorLaw21e
import Derived.Test.YtkkibocdfijnhaaGreatDoorCoDA
import Derived.Test.YtkkibocdfijnhaaGreatDoorRmI
import Derived.Test.YtkkibocdfijnhaaGreatDoorRmN
import Derived.Test.YtkkibocdfijnhaaGreatDoorSqM
import Derived.Test.YtkkibocdfijnhaaGreatDoorCoO
import Derived.Test.YtkkibocdfijnhaaGreatDoorLaneP
namespace Go.Proofs.YtkkibocdfijnhaaGreatDoor
set_option maxRecDepth 100000
set_option maxHeartbeats 4000000
open Go.RowKit bV
section
structure Dv where
 st:Nat
 key:Nat
 val:Nat
def Dv.zero:Dv:=⟨0,0,0⟩
def iU.passed (c:iU)(e:ay):Prop:=c.done=true∨bM e ⟨c.key,0,c.hash⟩=true
inductive lK (es:List ay)(hs:List Nat)(c:iU):Dv→iU→Prop
 |done (h:c.done=true):lK es hs c ⟨3,0,0⟩ c
 |yield (h:c.done=false) (hi:Nat) (m:ay) (h1:c.hash≤hi) (h2:hi∈hs) (h3:hi<18446744073709551616) (h4:∀x∈hs,c.hash≤x→hi≤x) (hm:gL ⟨c.key,0,c.hash⟩ (upto es hi) (some m)):lK es hs c ⟨1,m.key,m.val⟩ (behind m.hash m.key)
 |skip (h:c.done=false) (hi:Nat) (h1:c.hash≤hi) (h2:hi∈hs) (h3:hi<18446744073709551616) (h4:∀x∈hs,c.hash≤x→hi≤x) (hm:gL ⟨c.key,0,c.hash⟩ (upto es hi) none):lK es hs c ⟨if hi<18446744073709551615 then 2 else 3,0,0⟩ (behind hi 18446744073709551615)
theorem yT {h k:Nat}(h1:h<18446744073709551616):(behind h k).ok:=by
 unfold behind iU.ok;split
 ·exact⟨h1,by simp only;omega⟩
 ·split
  ·exact⟨by simp only;omega,by simp⟩
  ·simp
section
variable {es out : List ay} {hs : List Nat} {n : Nat} {c c' c'' : iU} {i i' : Dv}
structure Way (es:List ay)(hs:List Nat)(n:Nat)(out:List ay)(c:iU):Prop where
 rC:Asc out
 mem:∀e,e∈out↔e∈es∧c.passed e
 cnt:c.done=false→n≤out.length+below_ hs c.hash
 ok:c.ok
theorem Way.start (es:List ay)(hs:List Nat):Way es hs 0 [] ⟨0,0,false⟩:=⟨.nil,fun e=>by simp[iU.passed,bM],fun _=>Nat.zero_le _,by simp[iU.ok]⟩
theorem vR {es:List ay}{hash key:Nat}(h1:hash<18446744073709551616)(h2:key<18446744073709551616)(he:∀e∈es,e.hash<18446744073709551616∧e.key<18446744073709551616){e:ay}(h:e∈es):(behind hash key).passed e↔bM e ⟨key+1,0,hash⟩=true:=by
 have:=he e h;unfold behind iU.passed;split
 ·simp[bM]
 ·split
  ·simp[bM];omega
  ·simp[bM];omega
theorem Way.acN (h:Way es hs n out c)(hd:c.done=false):lJ es hs n out c.key c.hash:=⟨h.rC,fun e=>by rw[h.mem e];unfold iU.passed;rw[hd];simp,h.cnt hd⟩
theorem YP {hash key:Nat}(h:lJ es hs n out (key+1) hash)(h1:hash<18446744073709551616)(h2:key<18446744073709551616)(he:∀e∈es,e.hash<18446744073709551616∧e.key<18446744073709551616):Way es hs n out (behind hash key):=by
 refine⟨h.rC,fun e=>⟨fun hh=> ?_,fun hh=> ?_⟩,fun hd=> ?_,yT h1⟩
 ·obtain⟨g1,g2⟩:=(h.mem e).1 hh;exact⟨g1,(vR h1 h2 he g1).2 g2⟩
 ·exact(h.mem e).2 ⟨hh.1,(vR h1 h2 he hh.1).1 hh.2⟩
 ·have h3:=h.cnt
  have:hash≤(behind hash key).hash:=by
   unfold behind at hd⊢;split
   ·exact Nat.le_refl _
   ·split
    ·exact Nat.le_succ _
    ·rename_i a b;rw[if_neg a,if_neg b]at hd;cases hd
  have:=wI hs this;omega
theorem Way.next (h:Way es hs n out c)(hn:(es.map ay.key).Nodup)(he:∀e∈es,e.hash<18446744073709551616∧e.key<18446744073709551616)(hN:lK es hs c i c'):
  ∃out',Way es hs (n+1) out' c'∧((i.st=1∧c.done=false∧∃m∈es,out'=out++[m]∧(∀e∈out,bM e m=true)∧¬c.passed m∧i.key=m.key∧i.val=m.val∧c'=behind m.hash m.key)∨(i.st≠1∧out'=out∧i.key=0∧i.val=0∧(i.st=2∨i.st=3)∧(i.st=3↔c'.done=true))):=by
 cases hN with
 |done hd=>exact⟨out,⟨h.rC,h.mem,fun hh=>(by rw[hd]at hh;cases hh),h.ok⟩,.inr ⟨by simp,rfl,rfl,rfl,.inr rfl,by simp[hd]⟩⟩
 |yield hd hi m h1 h2 h3 h4 hm=>
  obtain⟨w1,w2,w3,w4⟩:=(h.acN hd).some_ hn hm;have hb:=he m w4;exact⟨out++[m],YP w1 hb.1 hb.2 he,.inl ⟨rfl,hd,m,w4,rfl,w2,fun hp=>(by rcases hp with hp|hp;rw[hd]at hp;cases hp;have:=hm.2.1;rw[hp]at this;cases this),rfl,rfl,rfl⟩⟩
 |skip hd hi h1 h2 h3 h4 hm=>
  have hcn:=h.cnt hd
  have aan:∀e∈es,((behind hi 18446744073709551615).passed e↔c.passed e):=fun e hh=>by
   rw[vR h3 (by omega) he hh];have hb:=he e hh;unfold iU.passed;rw[hd];constructor
   ·intro hl;right;exact hm e (nO.2 ⟨hh,by simp[bM]at hl;omega⟩)
   ·rintro(hl|hl)
    ·cases hl
    ·simp[bM]at hl⊢;omega
  refine⟨out,⟨h.rC,fun e=>⟨fun hh=> ?_,fun hh=> ?_⟩,fun hx=> ?_,yT h3⟩,.inr ⟨?_,rfl,rfl,rfl, ?_, ?_⟩⟩
  ·obtain⟨g1,g2⟩:=(h.mem e).1 hh;exact⟨g1,(aan e g1).2 g2⟩
  ·exact(h.mem e).2 ⟨hh.1,(aan e hh.1).1 hh.2⟩
  ·have hx':hi<18446744073709551615:=by
    unfold behind at hx;rw[if_neg (by omega)]at hx;by_cases hlt:hi<18446744073709551615
    ·exact hlt
    ·rw[if_neg hlt]at hx;cases hx
   have hb:(behind hi 18446744073709551615).hash=hi+1:=by
    unfold behind;rw[if_neg (by omega),if_pos hx']
   rw[hb];have:=Bf (b:=hi+1) h2 h1 (by omega);omega
  ·simp only;split<;>omega
  ·simp only;split<;>simp
  ·unfold behind
   by_cases hlt:hi<18446744073709551615<;>simp[hlt]
theorem Way.few (h:Way es hs n out c)(hd:c.done=false)(hN:lK es hs c i c'):n<es.length+hs.length:=by
 have h1:=h.cnt hd;have h2:out.length≤es.length:=KU h.rC.nodup (fun e he=>((h.mem e).1 he).1)
 have h3:below_ hs c.hash<hs.length:=by
  have hx:∃hi,c.hash≤hi∧hi∈hs:=by
   cases hN with
   |done h=>rw[hd]at h;cases h
   |yield h hi m h1 h2=>exact⟨hi,h1,h2⟩
   |skip h hi h1 h2=>exact⟨hi,h1,h2⟩
  obtain⟨hi,g1,g2⟩:=hx;have:=Bf (b:=hi+1) g2 g1 (by omega);have:=below_le hs (hi+1);omega
 omega
end
end
section
def Ag (i:Dv):Value:= .agg #[nI i.st,nU i.key,nU i.val]
def jD (its:List It)(id:Nat)(c:iU):List It:=its.map fun i=>if i.id=id then{i with c:=c} else i
theorem PN {its:List It}(hn:(its.map It.cb).Nodup){i j:It}(hi:i∈its)(hj:j∈its)(h:i.cb=j.cb):i=j:=by
 induction its with
 |nil=>cases hi
 |cons x l ih=>
  rw[List.map_cons,List.nodup_cons]at hn;rcases List.mem_cons.1 hi with h1|h1
  ·rcases List.mem_cons.1 hj with h2|h2
   ·rw[h1,h2]
   ·exact absurd (show x.cb∈l.map It.cb from by rw[←h1,h];exact List.mem_map_of_mem h2) hn.1
  ·rcases List.mem_cons.1 hj with h2|h2
   ·exact absurd (show x.cb∈l.map It.cb from by rw[←h2,←h];exact List.mem_map_of_mem h1) hn.1
   ·exact ih hn.2 h1 h2
section
variable {w w' : World} {ib mb most given id cb : Nat} {its : List It} {c c' : iU}
theorem OM:(jD its id c).map It.id=its.map It.id:=by
 unfold jD;rw[List.map_map];apply List.map_congr_left;intro i _;simp only[Function.comp_apply]
 split<;>rfl
theorem YQ:(jD its id c).map It.cb=its.map It.cb:=by
 unfold jD;rw[List.map_map];apply List.map_congr_left;intro i _;simp only[Function.comp_apply]
 split<;>rfl
theorem wJ:bB ib mb (jD its id c)=bB ib mb its:=by unfold bB;rw[YQ]
theorem VT:fK (jD its id c)=fK its:=by
 unfold fK jD;rw[List.map_map];apply List.map_congr_left;intro i _;simp only[Function.comp_apply]
 split<;>rfl
theorem fF.setCur (h:fF w ib mb most given its)(hi:⟨id,cb,c⟩∈its)(hc:eH w' cb c'){S:List Nat}(hm:Mod S w w')(hS:∀q∈S,q=cb∨q∉bB ib mb its):fF w' ib mb most given (jD its id c'):=by
 have hnf:=h.nf;unfold bB at hnf;rw[List.nodup_cons,List.nodup_cons]at hnf;have acO:cb∈its.map It.cb:=List.mem_map.2 ⟨_,hi,rfl⟩;have h1:ib∉S:=fun hh=>(hS _ hh).elim (fun k=>hnf.1 (by rw[k];exact List.mem_cons_of_mem _ acO)) (fun k=>k (by simp[bB]));have h2:mb∉S:=fun hh=>(hS _ hh).elim (fun k=>hnf.2.1 (by rw[k];exact acO)) (fun k=>k (by simp[bB]));refine⟨h.blk.mod hm h1,by rw[VT];exact h.map.mod hm h2,fun i hi'=> ?_,fun i hi'=> ?_,by rw[OM];exact h.nd,by rw[wJ];exact h.nf,h.few.1,by unfold jD;rw[List.length_map];exact h.few.2⟩
 ·unfold jD at hi';obtain⟨j,hj,rfl⟩:=List.mem_map.1 hi';by_cases hid:j.id=id
  ·rw[if_pos hid];have:=sG h.nd hj hi hid;rw[this];exact hc
  ·rw[if_neg hid];refine(h.cur j hj).mod hm (fun hh=>hid ?_);have hcb:j.cb=cb:=(hS _ hh).elim (fun k=>k) (fun k=>absurd (by unfold bB;simp only[List.mem_cons];exact .inr (.inr (List.mem_map_of_mem hj))) k);have hn:(its.map It.cb).Nodup:=hnf.2.2;exact congrArg It.id (PN hn hj hi hcb)
 ·have:i.id∈its.map It.id:=by rw[←OM (id:=id) (c:=c')];exact List.mem_map_of_mem hi'
  obtain⟨j,hj,hji⟩:=List.mem_map.1 this;rw[←hji];exact h.ids j hj
end
def sH (W0:World)(E:Nat→Addr)(H:Nat→Nat)(Kk M I b:Nat)(G0:List Nat)(w0:World)(C:fB)(GC:List Nat)(mb gv:Nat)(a:Pool)(ids:List Nat)(its:List It)(id cb:Nat)(c:iU)(V:World)(it:Dv)(w':World):Prop:=
 ∃(c':iU) (cc:bC) (fG:List Nat),lK a.ents (yS a) c it c'∧OA cc∧fU W0 E H Kk M I b G0 w0 C fG mb gv w' a ids (jD its id c')∧jO W0 E H Kk M C.cb fG w' a ids cc∧(∀q∈fG,q∈GC∨V.heap.size≤q)∧Mod (cb::GC) V w'
section
variable {W0 : World} {E : Nat → Addr} {H : Nat → Nat} {Kk M I b : Nat} {G0 : List Nat} {w0 w : World} {C : fB} {GC : List Nat} {mb gv : Nat} {a : Pool} {ids : List Nat} {its : List It} {id cb : Nat} {c : iU}
theorem sH.mod {T:List Nat}{V w1 w2:World}{it:Dv}(h:sH W0 E H Kk M I b G0 w0 C GC mb gv a ids its id cb c V it w1)(hm:Mod T w1 w2)(hT:∀q∈T,q∉dY b C GC mb its∧w0.heap.size≤q∧q<V.heap.size):
  ∃(c':iU) (cc:bC) (fG:List Nat),lK a.ents (yS a) c it c'∧OA cc∧fU W0 E H Kk M I b G0 w0 C fG mb gv w2 a ids (jD its id c')∧jO W0 E H Kk M C.cb fG w2 a ids cc∧(∀q∈fG,q∈GC∨V.heap.size≤q)∧Mod (cb::(GC++T)) V w2:=by
 obtain⟨c',cc,fG,h1,h2,h3,h4,h5,h6⟩:=h
 have h7:∀q∈T,q∉fG:=fun q hq hg=>by
  rcases h5 q hg with k|k
  ·exact(hT q hq).1 (aG.2 (.inr (.inr k)))
  ·have:=(hT q hq).2.2;omega
 refine⟨c',cc,fG,h1,h2,h3.zo hm (fun q hq=>⟨fun hg=> ?_,(hT q hq).2.1⟩),h4.mod hm (fun q hq=>⟨h7 q hq,Nat.le_trans h3.pK (hT q hq).2.1⟩),h5,(h6.more (fun q hq=>by simp at hq⊢;rcases hq with k|k;exact .inl k;exact .inr (.inl k))).then (hm.more (fun q hq=>by simp;exact .inr (.inr hq)))⟩;rcases aG.1 hg with k|k|k
 ·exact(hT q hq).1 (aG.2 (.inl k))
 ·rw[wJ]at k;exact(hT q hq).1 (aG.2 (.inr (.inl k)))
 ·exact h7 q hq k
theorem sH.of {S:List Nat}{V V1 V2:World}{c':iU}{cc:bC}{fG:List Nat}{it:Dv}(h3:fU W0 E H Kk M I b G0 w0 C fG mb gv V1 a ids its)(h4:jO W0 E H Kk M C.cb fG V1 a ids cc)(h5:∀q∈fG,q∈GC∨V.heap.size≤q)(h6:Mod GC V V1)(hi:⟨id,cb,c⟩∈its)(h1:lK a.ents (yS a) c it c')(h2:OA cc)(hc:eH V2 cb c')(hm:Mod S V1 V2)(hS:∀q∈S,q=cb∨(q∉dY b C fG mb its∧w0.heap.size≤q∧V.heap.size≤q)):sH W0 E H Kk M I b G0 w0 C GC mb gv a ids its id cb c V it V2:=by
 have hcb:cb∈bB C.ib mb its:=by
  unfold bB;simp only[List.mem_cons,List.mem_map];exact .inr (.inr ⟨_,hi,rfl⟩)
 refine⟨c',cc,fG,h1,h2,h3.SI (h3.kL.setCur hi hc hm (fun q hq=>(hS q hq).elim .inl (fun k=> .inr (fun g=>k.1 (aG.2 (.inr (.inl g))))))) hm (fun q hq=>(hS q hq).elim (fun k=> .inl (k▸hcb)) (fun k=> .inr ⟨k.1,k.2.1⟩)) (fun q hq=>by rw[wJ]at hq;exact .inl hq),h4.mod hm (fun q hq=> ?_),h5,h6.trans hm (fun q hq _=>List.mem_cons_of_mem _ hq) (fun q hq hl=> ?_)⟩
 ·rcases hS q hq with k|k
  ·rw[k];exact⟨h3.apart.2.2 _ hcb,h3.b0.2 _ hcb⟩
  ·exact⟨fun g=>k.1 (aG.2 (.inr (.inr g))),Nat.le_trans h3.pK k.2.1⟩
 ·rcases hS q hq with k|k
  ·rw[k];simp
  ·omega
theorem fU.acP (h:fU W0 E H Kk M I b G0 w0 C GC mb gv w a ids its):∀e∈a.ents,e.hash<18446744073709551616∧e.key<18446744073709551616:=fun e he=>by
 obtain⟨i,N,h1,h2⟩:=lV.1 he;have h3:=((h.core.facts.2.2.2.2.2.1 i N h1).hash e h2).1;exact⟨h3.h64,h3.k64⟩
end
theorem abg {W0:World}{E:Nat→Addr}{H:Nat→Nat}{Kk M I b:Nat}{G0:List Nat}{w0 w:World}{C:fB}{GC:List Nat}{mb gv:Nat}{a:Pool}{ids:List Nat}{its:List It}{id cb:Nat}{c:iU}(hS:fU W0 E H Kk M I b G0 w0 C GC mb gv w a ids its)(hi:⟨id,cb,c⟩∈its)(hd:c.done=false)(hok:c.ok):Calls Tryz.prog 96 #[pQ b,pQ cb] w fun y w'=>∃it,y= .returned (.tuple #[Ag it,.nilIface])∧sH W0 E H Kk M I b G0 w0 C GC mb gv a ids its id cb c w it w':=by
 have hst:=hS;have hB:=(Below.refl w.heap.size w).alloc (Nat.le_refl _) (.cells #[.int .i64 0,.int .u64 0,.int .u64 0] 139);have hR:=aj.new w 139 #[.int .i64 0,.int .u64 0,.int .u64 0];obtain⟨W,hW⟩:∃W,W=w.alloc (.cells #[.int .i64 0,.int .u64 0,.int .u64 0] 139):=⟨_,rfl⟩;rw[←hW]at hB hR;have QO:=(hS.kL.cur _ hi).mod (Mod.of_below hB []) (by simp);have HS:=qd (hS.below hB);have HR:=qd hR;have HB:=qd hB;have HW:=qd hW;have HI:=qd hi;have HCu:=qd QO;have bJ:=qd hS.acP;have HD:=qd hd;have J5:=qd hok;have HNf:=qd (show w.heap.size∉dY b C GC mb its from fun hg=>by have:=(hS.fM _ hg).1;omega);have HW0:=qd (show w0.heap.size≤w.heap.size from hS.mod.size);have ZT:=qd (show w.heap.size∉GC from fun hg=>by have:=(hS.fM _ (aG.2 (.inr (.inr hg)))).1;omega);have QS:=qd (show w.heap.size≠cb from fun e=>by have:cb<w.heap.size:=(hS.kL.cur _ hi).lt;omega);clear hst hB hR hW hS QO hi hd hok;go_in;go_upto_region 1 with fail;rw[←HW.out];go_wp2_with fail;refine(VI HCu.out).mono ?_;rintro y W1 ⟨rfl,hb⟩;replace HS:=qd (HS.out.below hb);replace HR:=qB hb HR;replace HB:=qd (bL hb HB.out);clear hb HCu;have hbk:=HS.out.blk.blk;unfold fB.cells at hbk;have c3:=hbk.cell 3;simp only[gl]at c3;have hle:=VH HS.out.core c.key c.hash J5.out.1;unfold bg at hle;have rR:=qd hle;clear hbk hle;go_wp2_with fail;refine rR.out.mono ?_;rintro y W2 ⟨o,hg,cc,fG,rfl,VU,hcc,hct,hsu,hmo⟩;have hs2:=HS.out.aal hct.at_ hsu hmo
 have HRn:=qd (show w.heap.size∉fG from fun hg=>(hsu _ hg).elim ZT.out (fun k=>by have:=HR.out.lt;omega));have HQ:=qd (show Mod GC w W2 from(Mod.of_below HB.out GC).then hmo);replace HR:=qd (HR.out.mod hmo ZT.out);replace HS:=qd hs2;have tC:=qd hct;have yU:=qd VU;have HCc:=qd hcc;have yg:=qd (show∀q∈fG,q∈GC∨w.heap.size≤q from fun q hq=>(hsu q hq).elim .inl (fun k=> .inr (by have:=HB.out.size;omega)));have HCb:=qd (show cb<W2.heap.size from(hs2.kL.cur _ HI.out).lt);clear hs2 hct VU hcc hsu hmo rR c3;obtain⟨e0,he0⟩:∃e0:ay,e0=o.getD ⟨0,0,0⟩:=⟨_,rfl⟩;rw[←he0];have Ii:=qd he0;clear he0;unfold aP;go_upto_region 3 with fail;refine dI 62 #[nU e0.key,nU e0.val,nU e0.hash] ?_;rintro W3 ⟨hX,hb⟩;replace HS:=qd (HS.out.below hb);replace tC:=qd (tC.out.below hb);replace HR:=qB hb HR;replace HQ:=qd (HQ.out.then (Mod.of_below hb GC));have HX:=qd hX;obtain⟨xb,hxb⟩:∃xb,xb=W2.heap.size:=⟨_,rfl⟩;rw[←hxb]at HX⊢
 have hxr:xb≠cb:=fun e=>by have:=HCb.out;omega
 have HXc:=qd hxr;clear hX hb hxb hxr
 have HRf:=qd (show w.heap.size∉dY b C fG mb its from fun hg=>by
  rcases aG.1 hg with k|k|k
  ·exact HNf.out (aG.2 (.inl k))
  ·exact HNf.out (aG.2 (.inr (.inl k)))
  ·exact HRn.out k)
 have hxc:xb∉[cb]:=fun hh=>HXc.out (List.mem_singleton.1 hh);have hrc:w.heap.size∉[cb]:=fun hh=>QS.out (List.mem_singleton.1 hh);have HXm:=qd hxc;have Qj:=qd hrc;clear hxc hrc
 cases o with
 |some m=>
  obtain rfl:e0=m:=Ii.out;have hmm:=yU.out.2.2.2.2.1;have Jl:=qd (bJ.out e0 (nO.1 hmm).1);have gB:=qd yU.out.2.2.2.2.2.1;have QT:=qd (fun V (hV:eH V cb c)=>PG hV HD.out e0 Jl.out.2 Jl.out.1 gB.out);unfold aP at QT;have ny:=qd (lK.yield HD.out hg e0 yU.out.1 yU.out.2.2.1 yU.out.2.1 yU.out.2.2.2.1 yU.out.2.2.2.2);clear hmm;go_upto_region 4 with fail;have QU:=HX.out.cell 0;have QV:=HX.out.cell 1;have QW:=HX.out.cell 2;simp only[gl]at QU QV QW;refine rT (fun(w':World)=>w'.cell? ⟨xb,0,none⟩=some (nU e0.key)∧w'.cell? ⟨xb,1,none⟩=some (nU e0.val)∧w'.cell? ⟨xb,2,none⟩=some (nU e0.hash)) [8] ?_;have hHeld:=(⟨QU,QV,QW⟩:_∧_∧_);refine vW 0 rfl ?_;refine vT 1 rfl ?_;refine vW 2 rfl ?_;refine vT 3 rfl ?_;refine vW 4 rfl ?_;refine vW 5 rfl ?_;refine vT 6 rfl ?_;refine nT 7 rfl fun K hK=> ?_;go_simp;refine(QT.out _ ((HS.out.kL.cur _ HI.out).mod (Mod.of_below (Below.refl W3.heap.size W3).drew []) (by simp))).mono ?_;rintro y W4 ⟨rfl,hc4,dP⟩;replace dP:Mod [cb] W3 W4:=(Mod.of_below (Below.refl W3.heap.size W3).drew [cb]).then dP;replace HR:=qd (HR.out.mod dP Qj.out);have iJ:=qd hc4;have Eo:=qd dP;replace HX:=qd (HX.out.mod dP HXm.out);clear hc4 dP QT QU QV QW;have QU:=HX.out.cell 0;have QV:=HX.out.cell 1;have QW:=HX.out.cell 2;simp only[gl]at QU QV QW;go_wp2_with fail;have hHeld:=(⟨QU,QV,QW⟩:_∧_∧_);refine kO hK ?_;clear hK K;refine nT 8 rfl fun K hK=> ?_;have r:=HR.out.c3;obtain⟨f0,f1,f2⟩:=HR.out.f3;have hnw:=((HR.out.ak 0 (.int .i64 1)).ak 1 (nU e0.key)).ak 2 (nU e0.val)
  have dh:=(((Mod.refl [w.heap.size] W4).ak (b:=w.heap.size) (.inl (by simp)) 0 (.int .i64 1)).ak (b:=w.heap.size) (.inl (by simp)) 1 (nU e0.key)).ak (b:=w.heap.size) (.inl (by simp)) 2 (nU e0.val);simp only[pt]at hnw;have hmt:Mod [cb,w.heap.size] W3 ((((W4).setCell ⟨w.heap.size,0,none⟩ (.int .i64 1)).setCell ⟨w.heap.size,1,none⟩ (nU e0.key)).setCell ⟨w.heap.size,2,none⟩ (nU e0.val)):=Eo.out.trans dh (fun q hq _=>by simp at hq⊢;exact .inl hq) (fun q hq _=>by simp at hq⊢;exact .inr hq)
  have HF:=qd (sH.of (V:=w) HS.out tC.out yg.out HQ.out HI.out ny.out HCc.out (iJ.out.mod dh (fun hh=>QS.out (List.mem_singleton.1 hh).symm)) hmt (fun q hq=>by
   rcases List.mem_cons.1 hq with k|k
   ·exact .inl k
   ·rw[List.mem_singleton.1 k];exact .inr ⟨HRf.out,HW0.out,Nat.le_refl _⟩))
  have jL:=qd hnw;clear hnw dh hmt;go_simp;refine kO hK ?_;clear hK K;refine vL 9 rfl ?_;refine aU (by kernel_rfl) ?_ _;go_wp2;refine bodyPost_ret (v:= .tuple #[.agg #[.int .i64 1,nU e0.key,nU e0.val],.nilIface]) (by simp[results,Tryz.results96,go_sem,r.1,r.2.1,r.2.2]) rfl ⟨⟨1,e0.key,e0.val⟩,rfl,HF.out⟩
 |none=>
  have QT:=qd (PI (HS.out.kL.cur _ HI.out) HD.out hg yU.out.2.1 yU.out.1);have ny:=qd (lK.skip HD.out hg yU.out.1 yU.out.2.2.1 yU.out.2.1 yU.out.2.2.2.1 yU.out.2.2.2.2);go_wp2_with fail;refine QT.out.mono ?_;rintro y W4 ⟨rfl,hc4,dP⟩;replace HR:=qd (HR.out.mod dP Qj.out);have iJ:=qd hc4;have Eo:=qd dP;have HDn:=qd (ER hc4);clear hc4 dP QT;by_cases hmx:hg<18446744073709551615
  ·have hdn:(behind hg 18446744073709551615).done=false:=by unfold behind;rw[if_neg (by omega),if_pos hmx]
   rw[hdn]at HDn;rw[if_pos hmx]at ny;clear hdn;go_wp2_with fail;refine HDn.out.mono ?_;rintro y W5 ⟨rfl,rfl⟩;clear HDn;have r:=HR.out.c3;obtain⟨f0,f1,f2⟩:=HR.out.f3;have hnw:=((HR.out.ak 0 (.int .i64 2)).ak 1 (.int .u64 0)).ak 2 (.int .u64 0);have dh:=(((Mod.refl [w.heap.size] W4).ak (b:=w.heap.size) (.inl (by simp)) 0 (.int .i64 2)).ak (b:=w.heap.size) (.inl (by simp)) 1 (.int .u64 0)).ak (b:=w.heap.size) (.inl (by simp)) 2 (.int .u64 0);simp only[pt]at hnw;have hmt:Mod [cb,w.heap.size] W3 ((((W4).setCell ⟨w.heap.size,0,none⟩ (.int .i64 2)).setCell ⟨w.heap.size,1,none⟩ (.int .u64 0)).setCell ⟨w.heap.size,2,none⟩ (.int .u64 0)):=Eo.out.trans dh (fun q hq _=>by simp at hq⊢;exact .inl hq) (fun q hq _=>by simp at hq⊢;exact .inr hq)
   have HF:=qd (sH.of (V:=w) HS.out tC.out yg.out HQ.out HI.out ny.out HCc.out (iJ.out.mod dh (fun hh=>QS.out (List.mem_singleton.1 hh).symm)) hmt (fun q hq=>by
    rcases List.mem_cons.1 hq with k|k
    ·exact .inl k
    ·rw[List.mem_singleton.1 k];exact .inr ⟨HRf.out,HW0.out,Nat.le_refl _⟩))
   have jL:=qd hnw;clear hnw dh hmt;go_wp2;refine bodyPost_ret (v:= .tuple #[.agg #[.int .i64 2,.int .u64 0,.int .u64 0],.nilIface]) (by simp[results,Tryz.results96,go_sem,r.1,r.2.1,r.2.2]) rfl ⟨⟨2,0,0⟩,rfl,HF.out⟩
  ·have hdn:(behind hg 18446744073709551615).done=true:=by unfold behind;rw[if_neg (by omega),if_neg hmx]
   rw[hdn]at HDn;rw[if_neg hmx]at ny;clear hdn;go_wp2_with fail;refine HDn.out.mono ?_;rintro y W5 ⟨rfl,rfl⟩;clear HDn;have r:=HR.out.c3;obtain⟨f0,f1,f2⟩:=HR.out.f3;have hnw:=((HR.out.ak 0 (.int .i64 3)).ak 1 (.int .u64 0)).ak 2 (.int .u64 0);have dh:=(((Mod.refl [w.heap.size] W4).ak (b:=w.heap.size) (.inl (by simp)) 0 (.int .i64 3)).ak (b:=w.heap.size) (.inl (by simp)) 1 (.int .u64 0)).ak (b:=w.heap.size) (.inl (by simp)) 2 (.int .u64 0);simp only[pt]at hnw;have hmt:Mod [cb,w.heap.size] W3 ((((W4).setCell ⟨w.heap.size,0,none⟩ (.int .i64 3)).setCell ⟨w.heap.size,1,none⟩ (.int .u64 0)).setCell ⟨w.heap.size,2,none⟩ (.int .u64 0)):=Eo.out.trans dh (fun q hq _=>by simp at hq⊢;exact .inl hq) (fun q hq _=>by simp at hq⊢;exact .inr hq)
   have HF:=qd (sH.of (V:=w) HS.out tC.out yg.out HQ.out HI.out ny.out HCc.out (iJ.out.mod dh (fun hh=>QS.out (List.mem_singleton.1 hh).symm)) hmt (fun q hq=>by
    rcases List.mem_cons.1 hq with k|k
    ·exact .inl k
    ·rw[List.mem_singleton.1 k];exact .inr ⟨HRf.out,HW0.out,Nat.le_refl _⟩))
   have jL:=qd hnw;clear hnw dh hmt;go_wp2;refine bodyPost_ret (v:= .tuple #[.agg #[.int .i64 3,.int .u64 0,.int .u64 0],.nilIface]) (by simp[results,Tryz.results96,go_sem,r.1,r.2.1,r.2.2]) rfl ⟨⟨3,0,0⟩,rfl,HF.out⟩
end
theorem YR (d:Nat)(fn:Fn)(a b:Array Value)(w:World):(Op.equalIn (d+1) 186 (.func fn a b) .nilFunc).run Tryz.prog w= .ok false w:=by simp[Op.equalIn,run_underlying Tryz.underlying186]
theorem acQ (fn:Fn)(a b:Array Value)(w:World):(Op.equal 186 (.func fn a b) .nilFunc).run Tryz.prog w= .ok false w:=YR 9999 fn a b w
theorem abh (d:Nat)(x:TypeId)(v:Value)(w:World):(Op.equalIn (d+1) 27 .nilIface (.iface x v)).run Tryz.prog w= .ok false w:=by simp[Op.equalIn,run_underlying Tryz.underlying27]
theorem adz (x:TypeId)(v:Value)(w:World):(Op.equal 27 .nilIface (.iface x v)).run Tryz.prog w= .ok false w:=abh 9999 x v w
theorem VW (a:Addr)(w:World):Calls Tryz.prog 14 #[.nilIface,.iface 318 (.pointer (some a))] w fun e w'=>e= .returned (.bool false)∧w=w':=by
 have hq:∀W:World,(binOp .eql 27 .nilIface (.iface 318 (.pointer (some a)))).run Tryz.prog W= .ok (.bool false) W:=fun W=>by
  simp only[binOp];simp[adz]
 go_in;go_wp2;go_ret;exact⟨rfl,rfl⟩
theorem abj {S:List Nat}{K:Dv→World→Prop}(G:FuncId)(cap:Array Value){V:World}{fb ob eb:Nat}(hG:∀W:World,(callFunc G cap).run Tryz.prog W= .ok (.enter G cap) W)(hF:aj V fb 186 #[.func (.func G) #[] cap])(hO:aj V ob 139 #[.int .i64 0,.int .u64 0,.int .u64 0])(hE:aj V eb 27 #[.nilIface])(hN:ob∉S∧eb∉S)(hoe:ob≠eb)
  (hc:Calls Tryz.prog G cap V fun y w1=>∃it,y= .returned (.tuple #[Ag it,.nilIface])∧Mod S V w1∧K it w1):
  Calls Tryz.prog 128 #[pQ fb,pQ ob,pQ eb] V fun y w'=>y= .returned undef∧∃it w1,K it w1∧Mod S V w1∧Mod [ob] w1 w'∧aj w' ob 139 #[nI it.st,nU it.key,nU it.val]∧aj w' eb 27 #[.nilIface]:=by
 have HO:=qd hO;have HE:=qd hE;have HN:=qd hN;have HC:=qd hc;have x0:=hF.cell 0;simp only[List.getElem?_toArray,List.getElem?_cons_zero]at x0;have hgg:=hG;have HOE:=qd hoe;clear hF hO hE hN hc hoe;go_in;go_wp2_with fail;refine HC.out.mono ?_;rintro y w1 ⟨it,rfl,hm,hk⟩;have yw:=HO.out.mod hm HN.out.1;have hE1:=HE.out.mod hm HN.out.2;have o0:=yw.cell 0;have o1:=yw.cell 1;have o2:=yw.cell 2;have e0:=hE1.cell 0;simp only[gl]at o0 o1 o2 e0;obtain⟨of0,of1,of2⟩:=yw.f3;have ef0:=hE1.frozen 0;have hid:=hE1.Aw (i:=0) (u:= .nilIface) rfl;have hn:=((yw.ak 0 (nI it.st)).ak 1 (nU it.key)).ak 2 (nU it.val);have hm2:=(((Mod.refl [ob] w1).sl 0 (nI it.st)).sl 1 (nU it.key)).sl 2 (nU it.val);simp only[pt]at hn;have hE2:=hE1.mod hm2 (fun hh=>HOE.out (List.mem_singleton.1 hh).symm);have acR:=hE2.Aw (i:=0) (u:= .nilIface) rfl;have HF:=qd (show∃it w2,K it w2∧Mod S V w2∧Mod [ob] w2 _∧aj _ ob 139 #[nI it.st,nU it.key,nU it.val]∧aj _ eb 27 #[.nilIface]from⟨it,w1,hk,hm,hm2,hn,hE2⟩);have hne1:=HOE.out;have hne2:eb≠ob:=fun e=>hne1 e.symm;clear e0 ef0;have e0:=hE1.cell 0;simp only[gl]at e0;have ef0:=hE1.frozen 0;have HI:=qd acR;clear hm hk yw hE1 hid hn hm2 hE2 acR;unfold Ag;go_wp2;go_end0;rw[HI.out];exact⟨rfl,HF.out⟩
theorem YS {S:List Nat}{K:World→Dv→World→Prop}(G:FuncId)(cap:Array Value)(w:World)(hG:∀W:World,(callFunc G cap).run Tryz.prog W= .ok (.enter G cap) W)(hS:∀q∈S,q<w.heap.size)
  (hc:∀V,Below w.heap.size w V→w.heap.size+5≤V.heap.size→Calls Tryz.prog G cap V fun y w1=>∃it,y= .returned (.tuple #[Ag it,.nilIface])∧Mod S V w1∧K V it w1):
  Calls Tryz.prog 94 #[.func (.func G) #[] cap] w fun y w'=>∃V it w1 T,y= .returned (.tuple #[Ag it,.nilIface])∧Below w.heap.size w V∧Mod S V w1∧K V it w1∧Mod T w1 w'∧∀q∈T,w.heap.size≤q∧q<V.heap.size:=by
 obtain⟨W,hW,hB,hBf,hBr,hBo,Zq,Dr⟩:=qX5 w 186 #[.func (.func G) #[] cap] 139 #[.int .i64 0,.int .u64 0,.int .u64 0] 139 #[.int .i64 0,.int .u64 0,.int .u64 0] 139 #[.int .i64 0,.int .u64 0,.int .u64 0] 27 #[.nilIface];have hsz:=hB.size;have HW:=qd hW;have HB:=qd hB;have Z0:=Dr.lt;have HBf:=qd hBf;have HBr:=qd hBr;have Ot:=qd hBo;have vY:=qd Dr;have HS:=qd hS;have HC:=qd hc;clear hW hB hBf hBr hBo Zq Dr hS hc;have om:∀(fn:Fn) (first cap:Array Value) (w:World),(Instr.makeFunc fn first cap).run Tryz.prog w= .ok (.func fn first cap) w:=fun _ _ _ _=>rfl
 have hq:∀W:World,(binOp .eql 186 (.func (.func G) #[] cap) .nilFunc).run Tryz.prog W= .ok (.bool false) W:=fun W=>by
  simp only[binOp];simp[acQ]
 have oU:=(Below.refl W.heap.size W).alloc (Nat.le_refl _) (.cells #[.nilIface] 27);have qN:Below w.heap.size w (W.alloc (.cells #[.nilIface] 27)):=bL oU HB.out
 have hlV:w.heap.size+5≤(W.alloc (.cells #[.nilIface] 27)).heap.size:=by simp;omega
 have HNS:=qd (show∀q,w.heap.size≤q→q∉S from fun q hq hs=>by have:=HS.out q hs;omega)
 have tC:=qd (Ba (S:=(w.heap.size+1+1)::S) (K:=fun w'=>∃it w1,K (W.alloc (.cells #[.nilIface] 27)) it w1∧Mod S (W.alloc (.cells #[.nilIface] 27)) w1∧Mod [(w.heap.size+1+1)] w1 w'∧aj w' (w.heap.size+1+1) 139 #[nI it.st,nU it.key,nU it.val]∧aj w' (w.heap.size+1+1+1+1) 27 #[.nilIface]) 128 #[pQ w.heap.size,.pointer (some ⟨(w.heap.size+1+1),0,none⟩),.pointer (some ⟨(w.heap.size+1+1+1+1),0,none⟩)] W (fun V=>enters_of Tryz.func128 (by kernel_rfl) rfl _ V)
  (fun hg=>by
   rcases List.mem_cons.1 hg with k|k
   ·omega
   ·exact HNS.out _ (by omega) k)
  ((abj G cap hG (HBf.out.mod (Mod.of_below oU []) (by simp)) (Ot.out.mod (Mod.of_below oU []) (by simp)) (vY.out.mod (Mod.of_below oU []) (by simp)) ⟨HNS.out _ (by omega),HNS.out _ (by omega)⟩ (by omega) (HC.out _ qN hlV)).mono (fun y w1 hh=>⟨hh.1,(by
   obtain⟨it,w2,k1,k2,k3,_,_⟩:=hh.2
   exact k2.trans k3 (fun q hq _=>List.mem_cons_of_mem _ hq) (fun q hq _=>by rw[List.mem_singleton.1 hq];simp)),hh.2⟩)))
 have HV:=qd (And.intro qN hlV);have OD:=qd oU;have x0:=HBf.out.cell 0;simp only[List.getElem?_toArray,List.getElem?_cons_zero]at x0;clear oU qN hlV;go_in;go_upto_region 3 with fail;rw[←HW.out];go_wp2_with fail;refine tC.out.mono ?_;rintro y w1 ⟨rfl,hm1,it,w2,hk,hm2,gy,ho,he⟩
 have hr1:=(HBr.out.mod (Mod.of_below OD.out []) (by simp)).mod hm1 (fun hg=>by
  rcases List.mem_cons.1 hg with k|k
  ·omega
  ·exact HNS.out _ (by omega) k)
 have r0:=hr1.cell 0;have r1:=hr1.cell 1;have r2:=hr1.cell 2;have o0:=ho.cell 0;have o1:=ho.cell 1;have o2:=ho.cell 2;have e0:=he.cell 0;simp only[gl]at r0 r1 r2 o0 o1 o2 e0;obtain⟨f0,f1,f2⟩:=hr1.f3;have dh:=(((Mod.refl [(w.heap.size+1)] w1).sl 0 (nI it.st)).sl 1 (nU it.key)).sl 2 (nU it.val);have hmt:=gy.trans dh (U:=[(w.heap.size+1),(w.heap.size+1+1)]) (fun q hq _=>by simp at hq⊢;exact .inr hq) (fun q hq _=>by simp at hq⊢;exact .inl hq)
 have HF:=qd (show∃V KV w1 T,(Ending.returned (.tuple #[.agg #[nI it.st,nU it.key,nU it.val],.nilIface]))= .returned (.tuple #[Ag KV,.nilIface])∧Below w.heap.size w V∧Mod S V w1∧K V KV w1∧Mod T w1 _∧∀q∈T,w.heap.size≤q∧q<V.heap.size from⟨_,it,w2,_,rfl,HV.out.1,hm2,hk,hmt,fun q hq=>by
  have:=HV.out.2;simp at hq
  rcases hq with k|k<;>omega⟩)
 clear hm1 hk hm2 gy ho he hr1 dh hmt tC;go_wp2;refine bodyPost_ret (v:= .tuple #[.agg #[nI it.st,nU it.key,nU it.val],.nilIface]) (by simp[results,Tryz.results94,go_sem,r0,r1,r2]) rfl HF.out
end Go.Proofs.YtkkibocdfijnhaaGreatDoor
