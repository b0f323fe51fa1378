/- A scheduler's New, Add, Remove by their contracts. -/
import Derived.Test.YtnfjjbpmhcbelaaGreatDoorCoBQ
import Derived.Test.YtnfjjbpmhcbelaaGreatDoorSqM
import Derived.Test.YtnfjjbpmhcbelaaGreatDoorGaugeA
import Derived.Test.YtnfjjbpmhcbelaaGreatDoorCoL
import Derived.Maps.OwnIn
import Derived.Test.YtnfjjbpmhcbelaaGreatDoorCoAD
namespace Go.Proofs.YtnfjjbpmhcbelaaGreatDoor
set_option maxRecDepth 100000
set_option maxHeartbeats 4000000
open Go.RowKit dI Go.Shelf
section
variable {id : Nat}
def jA (val:Nat→Value)(ids:List Nat):Int→Option Value:=fun x=>if 0≤x∧x.toNat∈ids then some (val x.toNat)else none
structure dX (w:World)(sb qb rb jb:Nat)(k b:Int)(val:Nat→Value)(ids:List Nat):Prop where
 blk:∃s,mO w sb qb jb k b s
 DI:∃ring first,fI w qb rb ring first ids
 map:iN w jb ids.length (jA val ids)
 nd:ids.Nodup
 apart: [sb,qb,rb,jb].Nodup
section
variable {w w' : World} {sb qb rb jb : Nat} {k b : Int} {val : Nat → Value} {ids : List Nat}
theorem dX.mod {S:List Nat}(h:dX w sb qb rb jb k b val ids)(hm:Mod S w w')(hs:∀q∈[sb,qb,rb,jb],q∉S):dX w' sb qb rb jb k b val ids:=by
 obtain⟨s,h1⟩:=h.blk;obtain⟨ring,first,h2⟩:=h.DI;exact⟨⟨s,h1.mod hm (hs _ (by simp))⟩,⟨ring,first,h2.mod hm (hs _ (by simp)) (hs _ (by simp))⟩,h.map.mod hm (hs _ (by simp)),h.nd,h.apart⟩
theorem dX.lt (h:dX w sb qb rb jb k b val ids):∀q∈[sb,qb,rb,jb],q<w.heap.size:=by
 obtain⟨s,h1⟩:=h.blk;obtain⟨ring,first,h2⟩:=h.DI;have:=h1.lt;have:=h2.lt;have:=h2.K7;have:=h.map.lt;intro q hq;simp at hq
 rcases hq with rfl|rfl|rfl|rfl<;>assumption
theorem dX.many (h:dX w sb qb rb jb k b val ids):ids.length≤40:=by
 obtain⟨ring,first,h2⟩:=h.DI;exact h2.many
theorem dX.bal {b' s:Int}(h:dX w sb qb rb jb k b val ids)(hm:Mod [sb] w w')(hs:mO w' sb qb jb k b' s):dX w' sb qb rb jb k b' val ids:=by
 obtain⟨ring,first,h2⟩:=h.DI;have ha:=h.apart;simp at ha;refine⟨⟨s,hs⟩,⟨ring,first,h2.mod hm (by simp;omega) (by simp;omega)⟩,h.map.mod hm (by simp;omega),h.nd,h.apart⟩
end
theorem yu {val:Nat→Value}{ids:List Nat}(h:id∈ids):jA val ids (id:Int)=some (val id):=by
 unfold jA;rw[if_pos ⟨by omega,by simpa using h⟩];simp
theorem OA {val:Nat→Value}{ids:List Nat}(h:id∉ids):jA val ids (id:Int)=none:=by
 unfold jA;rw[if_neg];simpa using h
theorem Qf {val:Nat→Value}{ids:List Nat}(hn:ids.Nodup)(y:Int):(if y=(id:Int)then none else jA val ids y)=jA val (ids.erase id) y:=by
 unfold jA;by_cases h:y=(id:Int)
 ·subst h;rw[if_pos rfl,if_neg];simp[hn.mem_erase_iff]
 ·rw[if_neg h];by_cases h0:0≤y
  ·have:y.toNat≠id:=by omega
   simp[hn.mem_erase_iff,h0,this]
  ·simp[h0]
theorem Tp {val:Nat→Value}{ids:List Nat}(y:Int):(if y=(id:Int)then some (val id)else jA val ids y)=jA val (ids++[id]) y:=by
 unfold jA;by_cases h:y=(id:Int)
 ·subst h;rw[if_pos rfl,if_pos (by simp)];simp
 ·rw[if_neg h];by_cases h0:0≤y
  ·have:y.toNat≠id:=by omega
   simp[h0,this]
  ·simp[h0]
theorem abo {ids:List Nat}(h:id∈ids):∃i,qV ids id=some i∧ids.eraseIdx i=ids.erase id:=by
 have h1:ids.idxOf id<ids.length:=List.idxOf_lt_length_of_mem h;refine⟨ids.idxOf id, ?_,(List.erase_eq_eraseIdx_of_idxOf rfl).symm⟩;unfold qV;have:ids.findIdx? (fun x=>x==id)=some (ids.findIdx fun x=>x==id):=List.findIdx?_eq_some_of_exists ⟨id,h,by simp⟩;rw[this];rfl
theorem Zg {ids:List Nat}(h:id∉ids):qV ids id=none:=by
 unfold qV;rw[List.findIdx?_eq_none_iff];intro x hx;simp;rintro rfl;exact h hx
theorem yw (id:Nat)(h:id≤1000):(Lit.int .i64 (id:Int)).wf=true:=by
 have h1:(IntKind.i64.min)= -9223372036854775808:=by decide
 have h2:(IntKind.i64.max)=9223372036854775807:=by decide
 simp only[Lit.wf,h1,h2,Bool.and_eq_true,decide_eq_true_eq];omega
theorem OB (sb qb rb jb:Nat)(k b:Int)(val:Nat→Value)(ids:List Nat)(id:Nat)(hid:id∈ids)(lD:id≤1000)(w:World)(h:dX w sb qb rb jb k b val ids):
  Calls Tryz.prog 174 #[eG sb,nI id] w fun e w'=>e= .returned (.bool true)∧dX w' sb qb rb jb k b val (ids.erase id)∧Mod [qb,rb,jb] w w':=by
 obtain⟨i,hi1,hi2⟩:=abo hid;obtain⟨s,hb⟩:=h.blk;obtain⟨ring,first,hq⟩:=h.DI;have HQ:=qd hq;have hB:=qd hb;have HM:=qd h.map;have hnd:=qd h.nd;have hap:=qd h.apart;have Zh:=h.apart;simp at Zh;have HW:=qd (yw id lD);have HI:=qd hi1;have HI2:=qd hi2;have hlq:=hq.lt;have hlr:=hq.K7;have hlb:=hb.lt
 have hln:(ids.length-if(jA val ids (id:Int)).isSome then 1 else 0)=(ids.erase id).length:=by rw[yu hid,List.length_erase_of_mem hid];simp
 have HN:=qd hln;unfold eG;clear h hb hq hi1 hi2 hln hid;have hs0:=aj.cell hB.out 0;have hs1:=aj.cell hB.out 3;have hs2:=aj.cell hB.out 4;simp only[gl]at hs0 hs1 hs2;go_in;go_wp2_with (at_delete;refine EG rfl _ _ rfl rfl HM.out _ rfl HW.out ?_;intro w1 hm1 uX;have ht1:=aj.cell (hB.out.mod uX (by simp;omega)) 3;simp only[gl]at ht1);replace HM:=qd (HN.out▸hm1);have ah:=qd uX;have hB2:=qd (hB.out.mod uX (by simp;omega));have HQ2:=qd (HQ.out.mod uX (by simp;omega) (by simp;omega));clear hs0 hs1 hs2 hm1 uX ht1;refine(Oy qb rb ring first ids id i HI.out w1 HQ2.out).mono ?_;rintro x w2 ⟨rfl,⟨tq,hq'⟩,hm⟩;have hfin:dX w2 sb qb rb jb k b val (ids.erase id):=⟨⟨s,hB2.out.mod hm (by simp;omega)⟩,⟨tq,first,HI2.out▸hq'⟩,(HM.out.mod hm (by simp;omega)).congr (Qf hnd.out),hnd.out.erase id,hap.out⟩;have HF:=qd hfin;replace ah:=qd (ah.out.trans hm (U:=[qb,rb,jb]) (by simp) (by simp<;>omega));clear hfin hq' hm;go_wp2;go_ret;exact⟨rfl,HF.out,ah.out⟩
theorem V6 (sb qb rb jb:Nat)(k b:Int)(val:Nat→Value)(ids:List Nat)(id:Nat)(hid:id∉ids)(lD:id≤1000)(hroom:ids.length<40)(t:TypeId)(a:Addr)(hv:val id= .iface t (.pointer (some a)))(w:World)(h:dX w sb qb rb jb k b val ids):
  Calls Tryz.prog 167 #[eG sb,nI id,.iface t (.pointer (some a))] w fun e w'=>e= .returned .nilIface∧dX w' sb qb rb jb k b val (ids++[id])∧Mod [qb,rb,jb] w w':=by
 obtain⟨s,hb⟩:=h.blk;obtain⟨ring,first,hq⟩:=h.DI;have HQ:=qd hq;have hB:=qd hb;have HM:=qd h.map;have hnd:=qd h.nd;have hap:=qd h.apart;have Zh:=h.apart;simp at Zh;have HW:=qd (yw id lD);have HI:=qd (Zg hid);have HO:=qd hid;have HV:=qd hv;have hlq:=hq.lt;have hlr:=hq.K7;have hlb:=hb.lt;have hlm:=HM.out.lt;have HNo:=qd (OA (val:=val) hid);unfold eG;clear h hb hq hid hv;have hs0:=aj.cell hB.out 0;have hs1:=aj.cell hB.out 3;have hs2:=aj.cell hB.out 4;simp only[gl]at hs0 hs1 hs2;go_in;go_wp2_with fail;refine(Tk qb rb ring first ids id HI.out hroom w HQ.out).mono ?_;rintro x w1 ⟨rfl,tq,hq',hm⟩;have ah:=qd hm;replace hB:=qd (hB.out.mod hm (by simp;omega));replace HM:=qd (HM.out.mod hm (by simp;omega));replace HQ:=qd hq';clear hq' hm hs0 hs1 hs2;have hs0:=aj.cell hB.out 0;have hs1:=aj.cell hB.out 3;have hs2:=aj.cell hB.out 4;simp only[gl]at hs0 hs1 hs2;go_wp2_with (at_mapUpdate;refine Gp rfl _ _ _ rfl rfl HM.out (by unfold maxLen;omega) _ (.iface t (.pointer (some a))) rfl rfl HW.out HNo.out ?_;intro w2 hm1 uX)
 have hfin:dX w2 sb qb rb jb k b val (ids++[id]):=⟨⟨s,hB.out.mod uX (by simp;omega)⟩,⟨tq,first,HQ.out.mod uX (by simp;omega) (by simp;omega)⟩,by rw[List.length_append];exact hm1.congr (fun y=>by rw[←Tp,HV.out]),by
  rw[List.nodup_append];exact⟨hnd.out,by simp,by simp;exact fun a ha he=>HO.out (he▸ha)⟩,hap.out⟩
 have HF:=qd hfin;replace ah:=qd (ah.out.trans uX (U:=[qb,rb,jb]) (by simp<;>omega) (by simp));clear hfin hm1 uX hs0 hs1 hs2;go_wp2;go_ret;exact⟨rfl,HF.out,ah.out⟩
theorem V7 {E:Nat→Addr}(k:Int)(hk:1≤k∧k≤64)(val:Nat→Value)(w:World)(hE:uU E w):
  Calls Tryz.prog 74 #[.int .i64 k] w fun e w'=>∃sb qb rb jb,e= .returned (.tuple #[eG sb,.nilIface])∧dX w' sb qb rb jb k 0 val []∧(∀q∈[sb,qb,rb,jb],w.heap.size≤q)∧Below w.heap.size w w':=by
 have hB:=(Below.refl w.heap.size w).alloc (Nat.le_refl _) (.cells #[.int .i64 k,.int .i64 1,.int .i64 1] 23);have hC:=aj.new w 23 #[.int .i64 k,.int .i64 1,.int .i64 1];obtain⟨W,hW⟩:∃W,W=w.alloc (.cells #[.int .i64 k,.int .i64 1,.int .i64 1] 23):=⟨_,rfl⟩;rw[←hW]at hB hC;have HP:=qd (tu k 1 1 W (hE.below hB (Nat.le_refl _)));rw[show(if oD k 1 1=true then Value.nilIface else jf E 1)=Value.nilIface from by rw[if_pos];simp[oD,Av,hk]]at HP;have hsz:=hC.lt;have HC:=qd hC;have HW:=qd hW;have HB:=qd hB;unfold gL at HP;unfold eG;have c:=hC.c3;clear hW hB hC hE hk;go_in;go_upto_region 2 with fail;rw[←HW.out];go_wp2_with fail;refine HP.out.mono ?_;rintro x w1 ⟨rfl,hb⟩;replace HC:=qB hb HC;replace HB:=qd (HB.out.trans (hb.mono HB.out.size));have hz1:=hb.size;clear hb c;go_wp2_with fail;have HN:=VX w1;unfold qj at HN;refine HN.mono ?_;clear HN;rintro x w2 ⟨rfl,hq,hb⟩;obtain⟨qb,Aj⟩:∃q,q=w1.heap.size+1:=⟨_,rfl⟩;obtain⟨rb,hrb⟩:∃q,q=w1.heap.size:=⟨_,rfl⟩;rw[←Aj,←hrb]at hq;rw[←Aj];replace HC:=qB hb HC;replace HB:=qd (HB.out.trans (hb.mono (Nat.le_trans HB.out.size (Nat.le_refl _))));have hz2:=hb.size;have Fu:=hq.lt;have hrl:=hq.K7;have HQ:=qd hq
 have af5:w.heap.size≤qb∧w.heap.size≤rb∧qb≠rb:=by omega
 clear hb hq Aj hrb;have c:=HC.out.c3;have hmm:=@run_makeMap Tryz.prog;go_wp2
 have hfin:dX ((w2.alloc (.map #[] 0)).alloc (.cells #[.int .i64 k,.int .i64 1,.int .i64 1,pQ qb,.map (some w2.heap.size),.int .i64 0,.float .f64 0,.int .i64 0] 197)) (w2.heap.size+1) qb rb w2.heap.size k 0 val []:=by
  have hm:=(Mod.refl [] w2).alloc (.map #[] 0);have hm2:=(Mod.refl [] (w2.alloc (.map #[] 0))).alloc (.cells #[.int .i64 k,.int .i64 1,.int .i64 1,pQ qb,.map (some w2.heap.size),.int .i64 0,.float .f64 0,.int .i64 0] 197);refine⟨⟨0, ?_⟩,⟨_,0,(HQ.out.mod hm (by simp) (by simp)).mod hm2 (by simp) (by simp)⟩,((iN.made w2).mod hm2 (by simp)).congr (fun x=>by simp[jA]),by simp,by simp;omega⟩;have:=aj.new (w2.alloc (.map #[] 0)) 197 #[.int .i64 k,.int .i64 1,.int .i64 1,pQ qb,.map (some w2.heap.size),.int .i64 0,.float .f64 0,.int .i64 0];rw[World.size_alloc]at this;exact this
 have hsz2:w.heap.size≤w2.heap.size:=HB.out.size;refine bodyPost_ret (v:= .tuple #[.pointer (some ⟨w2.heap.size+1,0,none⟩),.nilIface]) (by simp[results,Tryz.results74,go_sem]) rfl ?_;refine⟨_,_,_,_,rfl,hfin, ?_, ?_⟩
 ·first|omega|(simp;omega)
 ·exact(HB.out.alloc hsz2 _).alloc (by simp;omega) _
end
section
attribute [local go_sem] Oper.semAt_some
def qG (A:World)(ob:Nat):Option Nat:=(A.cell? ⟨ob,0,none⟩).bind Value.ownBlock
structure tC (n₀ ob:Nat)(A B:World):Prop where
 keep:aY n₀ [ob] A B
 cells:∀(k:Nat) (o:Obj),A.heap[k]?=some o→o.isCells=true→k≠ob→qG A ob≠some k→B.heap[k]?=some o
 row:∀k,qG B ob=some k→qG A ob=some k∨A.heap.size≤k
theorem tC.refl (n₀ ob:Nat)(A:World):tC n₀ ob A A:=⟨aY.refl _ _ _,fun _ _ h _ _ _=>h,fun _ h=> .inl h⟩
theorem Rb {n₀ ob:Nat}{A B C:World}(h:tC n₀ ob A B)(k:tC n₀ ob B C):tC n₀ ob A C:=
 ⟨dN h.keep k.keep,fun i o hi hc hne hr=>k.cells i o (h.cells i o hi hc hne hr) hc hne (fun e=>by
  rcases h.row i e with h1|h1
  ·exact hr h1
  ·have:=(Array.getElem?_eq_some_iff.1 hi).1;omega),fun i hi=>by
  rcases k.row i hi with h1|h1
  ·exact h.row i h1
  ·exact .inr (Nat.le_trans h.keep.size h1)⟩
theorem abp {n₀ ob:Nat}{w:World}(hn:n₀≤w.heap.size)(nV:ob<w.heap.size)(W:World)(l:Nat)(o o':Obj)(hl:w.heap.size≤l)(h1:W.heap[l]?=some o)(h2:o.isCells=false)(h3:o.isWalk=false):tC n₀ ob W (W.putObj l o'):=
 ⟨xG hn W l o o' hl h1 h2 h3,fun k x hk hc hne _=>(World.putObj_heap_other (fun e=>by rw[e,h1]at hk;injection hk with hk;rw[hk,hc]at h2;cases h2)).trans hk,fun k hk=> .inl (by
  have:(W.putObj l o').cell? ⟨ob,0,none⟩=W.cell? ⟨ob,0,none⟩:=World.cell?_of_block (World.putObj_heap_other (by show ob≠l;omega));unfold qG at hk⊢
  rwa [this]at hk)⟩
def DJ (ids:List Nat)(x:Fin ids.length):Nat:=ids.getD x.val 0
abbrev aax (ids:List Nat)(x:Fin ids.length):Array Value:= #[nI x.val,.int .i64 ((DJ ids x:Nat):Int)]
theorem Mc {n j:Nat}(h:j<n):(List.finRange n).take (j+1)=(List.finRange n).take j++[⟨j,h⟩]:=by
 rw[List.take_add_one,List.getElem?_eq_getElem (by simpa using h)];simp
theorem V8 (q:Nat)(hq:1≤q)(n₀ ob bx qb rb:Nat)(ring:List Nat)(first:Nat)(ids:List Nat)(w:World)(hbx:w.cell? ⟨bx,0,none⟩=some (pQ qb))(hbl:bx<w.heap.size)
  (h:fI w qb rb ring first ids) (nV:ob<w.heap.size) (hnil:w.cell? ⟨ob,0,none⟩=some (.slice none 0 0)):
  SeqStopsK (α:=Fin ids.length) Fence.wide q Tryz.prog 257 #[pQ bx] (aax ids) (tC n₀ ob) (fun ys=>ys=List.finRange ids.length) (fun _=>True) 64 w:=by
 intro lp J Jx W hW hJ _ hY h0;have hmn:=h.many;have hWl:=hW.size;have af6:W.cell? ⟨bx,0,none⟩=some (pQ qb):=(hW.cell (p:=⟨bx,0,none⟩) hbl).trans hbx;have hQW:=h.mod (Mod.of_below hW []) (by simp) (by simp);have HL:=qd (uG (q:=q-1) (BD qb rb ring first ids W hQW));unfold qj at HL;have aay:W.cell? ⟨ob,0,none⟩=some (.slice none 0 0):=(hW.cell (p:=⟨ob,0,none⟩) nV).trans hnil;have HJ:=qd hJ;have aei:=qd aay;obtain⟨n,hn⟩:∃n,n=ids.length:=⟨_,rfl⟩
 have acs:n≤40:=by omega
 have HN:=qd hn;rw[←hn]at HL;clear h hQW hbx hnil hJ hn aay;refine callsIn_of_wp Tryz.func257 rfl trivial ?_ rfl;simp only[Tryz.ntmps257,List.size_toArray,List.length_cons,List.length_nil,Nat.reduceAdd,Nat.reduceSub,Array.replicate_succ,Array.replicate_zero,List.push_toArray,List.append_toArray,List.nil_append,List.cons_append]
 gi_wp2_with (refine⟨trivial, ?_⟩;gi_at_call 258;refine HL.out.mono ?_;rintro e w' ⟨A,c,rfl,hO,hB⟩)
 gi_loopw [3,4,8] (fun _ _ i wr=>∃j:Nat,j≤n∧i=nI j∧J ((List.finRange ids.length).take j) wr∧tC n₀ ob w' wr) (fun _ _ i _=>n-(intOf i).toNat)
 case atStart=>
  refine⟨0,Nat.zero_le _,rfl, ?_,tC.refl _ _ _⟩;exact HJ.out [] W w' none h0 ⟨hB.os,hB.tape,hB.output,hB.size,fun k hk _=>hB.block k hk⟩ (fun r hr=>by cases hr)
 case round=>
  obtain⟨j,hj,rfl,hJj,hK⟩:=hrel;by_cases hlt:j<n
  ·have hlt':(j:Int)<(n:Int):=by omega
   have hnn:=HN.out
   have hji:j<ids.length:=by omega
   have hlen:((List.finRange ids.length).take j).length<64:=by simp;omega
   obtain⟨fn,tmps,assign,body,hy,sM⟩:=hY _ ⟨j,hji⟩ wr hJj hlen;have HS:=qd (Mc hji);obtain⟨g,rfl,hge,hgl,hce,hln⟩:=mM hO (List.getElem?_eq_getElem hji)
   have af7:wr.cell? ⟨g,j,none⟩=some (.int .i64 ((ids.getD j 0:Nat):Int)):=by
    obtain⟨o,ho⟩:∃o,w'.heap[g]?=some o:=⟨_,Array.getElem?_eq_getElem hgl⟩
    have hbr:qG w' ob=none:=by
     unfold qG;rw[(hB.cell (p:=⟨ob,0,none⟩) (Nat.lt_of_lt_of_le nV hWl)).trans aei.out];rfl
    have hcl:o.isCells=true:=by
     have:=hce;unfold World.cell? at this;simp only[ho]at this
     cases o<;>simp at this<;>rfl
    have:=hK.cells g o ho hcl (by omega) (by rw[hbr];simp);rw[World.cell?_of_block (w:=w') (a:=⟨g,j,none⟩) (this.trans ho.symm),hce,List.getD_eq_getElem?_getD,List.getElem?_eq_getElem hji];rfl
   simp only[aax,DJ]at hy sM;generalize ids.getD j 0=x at*;clear hce hnn hln hO hge hgl
   have hj0:(0:Int)≤(j:Int):=by omega
   gi_wp2
   refine sM.mono ?_;rintro e W3 (⟨rfl,hJ3,hk3⟩|⟨rfl,hJx3⟩)
   ·gi_wp2
    go_roundw
    case rel=>exact⟨j+1,by omega,by go_num,by rw[HS.out];exact hJ3,Rb hK hk3⟩
    case measure=>simp[intOf];omega
   ·gi_wp2
    refine bodyPost_ret (results_none rfl _ _ _) rfl ?_;exact⟨⟨_,rfl⟩,.inr ⟨_,trivial,hJx3⟩⟩
  ·obtain rfl:j=n:=by omega
   have hlt':¬(j:Int)<(j:Int):=by omega
   have hw:(List.finRange ids.length).take j=List.finRange ids.length:=List.take_of_length_le (by rw[List.length_finRange];exact Nat.le_of_eq HN.out.symm);rw[hw]at hJj;clear hw
   gi_wp2
   go_end0
   first|exact⟨⟨_,rfl⟩,.inl ⟨_,rfl,hJj⟩⟩|exact⟨⟨_,rfl⟩,.inl hJj⟩
theorem V9 (qb:Nat)(w:World):Calls Tryz.prog 230 #[qj qb] w fun e w'=>e= .returned (.func (.func 257) #[] #[pQ w.heap.size])∧w.alloc (.cells #[pQ qb] 192)=w':=by
 unfold qj;go_in;go_wp2;go_ret;exact⟨rfl,rfl⟩
end
section
variable {t : TypeId} {base : Nat} {v : Value}
attribute [local go_sem] Oper.semAt_some
theorem Gr {F:Fence}{fu:Nat}{P:Program}{w0:World}{ops:Array Oper}{rest:List Oper}{o:Oper}{a:Act}{Q:Exit→Act→World→Prop}(hgd:o.guard=none){s x:Operand}(ho:o.op= .call {callee:= .builtin .append,args:= #[s,x],argTypes:= #[t,t]}){e:TypeId}{size bytes:Nat}(hT:sH P t e size bytes){n:Nat}{xs:List Value}(hown:w0.ownsRow base e size v n xs)(hs:a.eval s=v){cs:Array Value}{t':TypeId}{c:Nat}{g:Nat}(hx:a.eval x= .slice (some ⟨g,0,none⟩) 1 c)(hg0:g=w0.heap.size)(hl:cs.size=size)(h1':(cs.toList.all fun u=>u.oneCell')=true)(hn:n<33554432)(hbase:base≤w0.heap.size)(h:∀v' w',w'.ownsRow base e size v' (n+1) (xs++cs.toList)→nA w0 base v w' v'→wpListIn F fu P ops Q rest (a.put o.dst v') w'):
  wpListIn F fu P ops Q (o::rest) a (w0.alloc (.cells cs t')):=by
 obtain⟨i,z,ht,hi,hz,hsize,hby,hzs,hsz,hb⟩:=hT;have h1:∀u∈cs.toList,u.oneCell'=true:=List.all_eq_true.1 h1';subst hg0
 refine wpListIn_append_own_at (w0.alloc (.cells cs t')) hgd s x t ho base e i z size bytes ht hi hz hsize hby hzs hsz v n xs hs (hown.alloc _) ⟨w0.heap.size,0,none⟩ 1 c cs.toList hx (by simp[hl]) ?_ h1
  (by simp only[maxLen];omega) ?_ (by simp;omega) ?_
 ·intro j u hj
  have hadd:(⟨w0.heap.size,0,none⟩:Addr).add j=⟨w0.heap.size,j,none⟩:=by unfold Addr.add;split<;>simp_all
  rw[hadd,(aj.new w0 t' cs).cell];simpa using hj
 ·have:(n+1)*bytes≤33554432*4096:=Nat.mul_le_mul (by omega) hb;omega
 ·intro v' w' hown' hg _ hat;have hlt:=hown.lt;have hb0:Below base w0 (w0.alloc (.cells cs t')):=(Below.refl _ _).alloc hbase _;refine h v' w' hown' ⟨hb0.grown hg (by simp;omega) (fun k hk=>(hlt k hk).1),⟨hg.os,hg.tape,hg.output,by have:=hg.size;simp at this;omega,fun k hk hne=> ?_⟩, ?_⟩
  ·exact(hg.block k (by simp;omega) hne).trans (Below.heap_alloc w0 _ k hk)
  ·rcases hat with hat|hat
   ·exact .inl hat
   ·exact .inr ⟨_,hat,by simp⟩
def La (ids:List Nat)(pre:List (Fin ids.length)):List Nat:=pre.map (DJ ids)
theorem abq (ids:List Nat):La ids (List.finRange ids.length)=ids:=by
 unfold La;apply List.ext_getElem
 ·simp
 ·intro i h1 h2;simp only[List.getElem_map,List.getElem_finRange,DJ];rw[List.getD_eq_getElem?_getD,List.getElem?_eq_getElem (by simpa using h2)];rfl
theorem Zi (ids:List Nat)(pre:List (Fin ids.length))(x:Fin ids.length):dD (La ids (pre++[x]))=dD (La ids pre)++[.int .i64 ((DJ ids x:Nat):Int)]:=by simp[La,dD]
theorem Wd {n₀ ob:Nat}{V w4:World}{v4:Value}(wI:Boxed V ob t v)(hg:nA V base v w4 v4)(hK:aY n₀ [ob] V (w4.setCell ⟨ob,0,none⟩ v4))(hB4:Boxed (w4.setCell ⟨ob,0,none⟩ v4) ob t v4):tC n₀ ob V (w4.setCell ⟨ob,0,none⟩ v4):=by
 have hr:qG V ob=v.ownBlock:=by unfold qG;rw[wI.cell];rfl
 have hr4:qG (w4.setCell ⟨ob,0,none⟩ v4) ob=v4.ownBlock:=by unfold qG;rw[hB4.cell];rfl
 refine⟨hK,fun k o hk hc hne hro=> ?_,fun k hk=> ?_⟩
 ·have hlt:=(Array.getElem?_eq_some_iff.1 hk).1;rw[Below.heap_setCell _ _ _ _ hne];rw[hr]at hro;exact(hg.kr.block k hlt (fun e=>hro e.symm)).trans hk
 ·rw[hr4]at hk;rw[hr];rcases hg.at_ with h1|⟨g,h1,h2⟩
  ·exact .inl (h1▸hk)
  ·rw[h1]at hk
   injection hk with hk
   subst hk;exact .inr h2
theorem Lb (sb qb rb jb:Nat)(k b:Int)(val:Nat→Value)(ids:List Nat)(w:World)(h:dX w sb qb rb jb k b val ids):
  Calls Tryz.prog 173 #[eG sb] w fun e w'=>∃A c,e= .returned (.slice A ids.length c)∧w'.ownsRow w.heap.size 3 1 (.slice A ids.length c) ids.length (dD ids)∧Below w.heap.size w w':=by
 obtain⟨s,hb⟩:=h.blk;obtain⟨ring,first,hq⟩:=h.DI;have hmn:=h.many;have hB:=(Below.refl w.heap.size w).alloc (Nat.le_refl _) (.cells #[.slice none 0 0] 65);have hO:=aj.new w 65 #[.slice none 0 0];obtain⟨W,hW⟩:∃W,W=w.alloc (.cells #[.slice none 0 0] 65):=⟨_,rfl⟩;rw[←hW]at hB hO;have hQ:=hq.mod (Mod.of_below hB []) (by simp) (by simp);have hS:=hb.mod (Mod.of_below hB []) (by simp);have hsl:=hS.lt;have HW:=qd hW;have HB:=qd hB;unfold eG;have v0:=aj.cell hS 3;simp only[gl]at v0;clear hW hB h hb hq hS;refine(callsIn_wide (n:=10)).1 ?_
 have h1:1≤10:=by omega
 refine kV Tryz.func173 rfl trivial rfl ?_;simp only[Tryz.ntmps173,List.size_toArray,List.length_cons,List.length_nil,Nat.reduceAdd,Nat.reduceSub,Array.replicate_succ,Array.replicate_zero,List.push_toArray,List.append_toArray,List.nil_append,List.cons_append];refine wpIn_wide.2 ?_;go_upto_region 2 with fail;rw[←HW.out];go_wp2_with fail;refine(V9 qb _).mono ?_;rintro e w1 ⟨rfl,hw1⟩;have hb1:Below W.heap.size W w1:=hw1▸(Below.refl W.heap.size W).alloc (Nat.le_refl _) _;have hX1:aj w1 W.heap.size 192 #[pQ qb]:=hw1▸aj.new W _ _;clear hw1;go_wp2_with fail;refine(wpIn_wide (n:=10)).1 ?_;have hB1:Below w.heap.size w w1:=bP hb1 HB.out;have hlt3:w.heap.size<W.heap.size:=hO.lt;have yQ:Boxed w1 w.heap.size 65 (.slice none 0 0):=hO.below hb1 hO.lt;have hQ1:=hQ.mod (Mod.of_below hb1 []) (by simp) (by simp);have hbl:=hB1.size;have hbs:=hb1.size;clear hQ v0
 refine wpIn_rangeFunc_ownH rfl h1 (gf:=257) (lb:= #[pQ W.heap.size]) rfl trivial (enters_of Tryz.func257 (by kernel_rfl) rfl)
  (V8 (10-1) (by omega) w1.heap.size w.heap.size W.heap.size qb rb ring first ids w1 (hX1.cell 0) hX1.lt hQ1 (by omega) yQ.cell) Rb (abp (Nat.le_refl _) (by omega)) (Below.refl _ _) (fun _=>rfl)
  (fun pre V=>(∃v,Boxed V w.heap.size 65 v∧V.ownsRow w1.heap.size 3 1 v pre.length (dD (La ids pre))∧True)∧aY w1.heap.size [w.heap.size] w1 V)
  (fun _ _ _=>False)
  (OwnFrom.and (Own.from (holdsRow_own w1.heap.size w.heap.size 65 3 1 List.length (fun pre=>dD (La ids pre)) (fun _ _=>True)) _) (qK (Nat.le_refl _) (Nat.le_refl _)))
  (fun _ _ _ _ _ hs _ _=>hs)
  ⟨⟨_,yQ,⟨by simp[La,dD],.inl ⟨rfl,rfl⟩⟩,trivial⟩,aY.refl _ _ _⟩
  (fun x a' _=>a'={tmps:= #[pQ sb,undef,.slice none 0 0,pQ w.heap.size,undef,.int .i64 ((DJ ids x:Nat):Int),pQ sb,pQ sb,.pointer (some ⟨sb,3,none⟩),pQ qb,.func (.func 257) #[] #[pQ W.heap.size],nI x.val,.int .i64 ((DJ ids x:Nat):Int),undef,undef,undef,undef,undef],defers:=[]})
  (fun _ _ _ _ _ _ hs _ _=>hs) ?assign ?body ?done ?stop
 case assign=>
  rintro lp pre x V K hi hK
  gi_wp2
  exact hK _ _ (KeepsFrom.refl _ _) (tC.refl _ _ _) hi rfl
 case body=>
  rintro lp pre x a' V hl ⟨r,hr⟩ ⟨⟨v,wI,hO,-⟩,oK⟩ rfl hlt;obtain⟨A,c,rfl⟩:=bA hO;have ho:=wI.cell;have af8:=wI.lt;have dZ:=qd (Zi ids pre x);have CX:=oK.size;generalize DJ ids x=id at*
  gi_wp2_with (gi_at_builtin;refine Gr rfl rfl yt hO rfl rfl rfl rfl rfl (by omega) (by omega) ?_;intro v4 w4 dG ig;obtain⟨A4,c4,rfl⟩:=bA dG;have hox:Boxed w4 w.heap.size 65 (.slice A pre.length c):=(ig.below.block _ (by omega)).trans wI;have o4:=hox.cell;have f4:=hox.frozen)
  have hfin:Boxed (w4.setCell ⟨w.heap.size,0,none⟩ (.slice A4 (pre.length+1) c4)) w.heap.size 65 (.slice A4 (pre.length+1) c4):=hox.set _
  have Yo:(Value.slice A4 (pre.length+1) c4).ownBlock≠some w.heap.size:=fun he=>by
   have:=(dG.lt _ he).1;omega
  have hown5:=dG.kept (grownBy_setCell' w4 w.heap.size (.slice A4 (pre.length+1) c4)) (.inr Yo);have hK4:aY w1.heap.size [w.heap.size] w1 w4:=dN oK (aY.of_below ig.below);have CY:KeepsFrom w1.heap.size V w4:=Ce CX (Below.refl _ _) hO ig;have wo:=CY.trans ((KeepsOthers.setCell w4 ⟨w.heap.size,0,none⟩ (.slice A4 (pre.length+1) c4)).from _);have rM:aY w1.heap.size [w.heap.size] w1 (w4.setCell ⟨w.heap.size,0,none⟩ (.slice A4 (pre.length+1) c4)):=hK4.ak (.inl (by simp)) _ _;have U1:aY w1.heap.size [w.heap.size] V (w4.setCell ⟨w.heap.size,0,none⟩ (.slice A4 (pre.length+1) c4)):=(aY.of_below ig.below).ak (.inl (by simp)) _ _;have hKO:=Wd wI ig U1 hfin;have HE:=qd (And.intro wo (And.intro hKO (And.intro (And.intro hfin hown5) rM)));clear wo U1 hfin hown5 rM CY hK4 dG ig hox hKO
  first|gi_wp2|skip
  exact⟨HE.out.1,HE.out.2.1,⟨_,HE.out.2.2.1.1,by rw[dZ.out,List.length_append];exact HE.out.2.2.1.2⟩,HE.out.2.2.2⟩
 case done=>
  rintro D ys V hD hys ⟨⟨v,wI,hO,-⟩,oK⟩ rJ;obtain⟨A,c,rfl⟩:=bA hO;have ho:=wI.cell;subst hys
  have hlen:(List.finRange ids.length).length=ids.length:=by simp
  rw[abq,hlen]at hO;rw[hlen]at wI ho;have QF:=(Mod.of_below hB1 [w.heap.size]).then oK.mod;have gG:=qd hO;clear hO;go_wp2;refine xH ⟨by simp,.inl ⟨_,_,rfl,run_takeDeferred rJ, ?_⟩⟩;refine⟨.slice A ids.length c, ?_,A,c,rfl, ?_, ?_⟩
  ·simp[results,Tryz.f173,go_sem]
  ·exact qR (ownsRow_putObj gG.out _ rJ rfl) (by omega)
  ·exact(QF.below (by simp) (Nat.le_refl _)).trans (belowK_b (w:=w) (Nat.le_refl _) V D _ _ (by omega) rJ rfl rfl)
 case stop=>
  rintro D c pre V hD hS hI;exact hI.elim
end
section
variable {x y : bL} {base n p q u : Nat} {F' S : List Nat} {e : TypeId} {xs : List Value}
def dL (x x':bL)(p u:Nat):Prop:=0≤x.last.p→0≤x.last.u→0≤x'.last.p∧x'.last.p≤x.last.p+p∧0≤x'.last.u∧x'.last.u≤x.last.u+u
theorem dL.refl (x:bL):dL x x 0 0:=fun h1 h2=>⟨h1,by omega,h2,by omega⟩
theorem dL.trans {z:bL}{v:Nat}(h:dL x y p u)(k:dL y z q v):dL x z (p+q) (u+v):=fun h1 h2=>by
 obtain⟨a,b,c,d⟩:=h h1 h2;obtain⟨a',b',c',d'⟩:=k a c;exact⟨a',by omega,c',by omega⟩
theorem dL.mono {v:Nat}(h:dL x y p u)(hp:p≤q)(hu:u≤v):dL x y q v:=fun h1 h2=>by
 obtain⟨a,b,c,d⟩:=h h1 h2;exact⟨a,by omega,c,by omega⟩
def mP (P:MP):Value:= .pointer (some ⟨P.mb,P.mo,none⟩)
structure iO (W0:World)(E:Nat→Addr)(P:MP){α:Type}(jt:Nat→TypeId)(ja:Nat→Addr)(At:World→List Nat→α→Prop)(can:α→Nat→Prop)(left:α→Nat→Nat)(Stp:α→Nat→α→Prop):Prop where
 OC:∀{a id},can a id→zJ (jt id)
 lt:∀{V F a},At V F a→∀q∈F,q<V.heap.size∧W0.heap.size≤q
 mb:∀{V F a},At V F a→P.mb∉F
 zK:∀{V V' F S a},At V F a→Mod S V V'→(∀q∈F,q∉S)→At V' F a
 le:∀{V F a id},At V F a→can a id→left a id≤1000
 wS:∀{V F a id},At V F a→can a id→Calls Tryz.prog (jy (jt id)) #[.pointer (some (ja id))] V fun e V'=>e= .returned (.int .i64 (left a id:Int))∧Below V.heap.size V V'
 aaz:∀{V F a id x},At V F a→can a id→1≤left a id→Env W0 E V→aN V P x→Calls Tryz.prog (xu (jt id)) #[.pointer (some (ja id)),mP P] V fun e V'=>e= .returned (.bool true)∧∃a' F' x',Stp a id a'∧At V' F' a'∧(∀q∈F',q∈F∨V.heap.size≤q)∧aN V' P x'∧dL x x' 0 1∧Mod (P.mb::F) V V'
 jg:∀{a id a' j},Stp a id a'→can a j→can a' j
 Lc:∀{a id a' j},Stp a id a'→j≠id→left a' j=left a j
 DK:∀{a id a'},Stp a id a'→left a' id+1=left a id
structure SP where
 sb:Nat
 qb:Nat
 rb:Nat
 jb:Nat
 k:Int
 val:Nat→Value
def SP.blocks (s:SP):List Nat:=[s.sb,s.qb,s.rb,s.jb]
structure bD (W0:World)(E:Nat→Addr)(P:MP){α:Type}(At:World→List Nat→α→Prop)(s:SP)(w0:World)(F0:List Nat)(w:World)(b:Int)(ids:List Nat)(a:α)(F:List Nat)(x:bL):Prop where
 aD:dX w s.sb s.qb s.rb s.jb s.k b s.val ids
 pool:At w F a
 met:aN w P x
 env:Env W0 E w
 apart:∀q∈s.blocks,q∉F∧q≠P.mb∧W0.heap.size≤q
 rZ:W0.heap.size≤P.mb
 qH:W0.heap.size≤w0.heap.size
 sub:∀q∈F,q∈F0∨w0.heap.size≤q
 mod:Mod (P.mb::(s.blocks++F0)) w0 w
section
variable {W0 w0 w w' : World} {E : Nat → Addr} {P : MP} {α : Type} {jt : Nat → TypeId} {ja : Nat → Addr} {At : World → List Nat → α → Prop} {can : α → Nat → Prop} {left : α → Nat → Nat} {Stp : α → Nat → α → Prop}
 {s:SP} {F0 F:List Nat} {b:Int} {ids:List Nat} {a:α} {x:bL}
theorem bD.size (h:bD W0 E P At s w0 F0 w b ids a F x):w0.heap.size≤w.heap.size:=h.mod.size
theorem bD.start (hs:dX w s.sb s.qb s.rb s.jb s.k b s.val ids)(hp:At w F a)(hm:aN w P x)(he:Env W0 E w)(ha:∀q∈s.blocks,q∉F∧q≠P.mb∧W0.heap.size≤q)(hmb:W0.heap.size≤P.mb):bD W0 E P At s w F w b ids a F x:=
 ⟨hs,hp,hm,he,ha,hmb,he.size,fun _ h=> .inl h,Mod.refl _ _⟩
theorem bD.away (HP:iO W0 E P jt ja At can left Stp)(h:bD W0 E P At s w0 F0 w b ids a F x)(hm:Mod S w w')(hS:∀q∈S,w0.heap.size≤q∧q∉F∧q≠P.mb∧q∉s.blocks∧W0.heap.size≤q):bD W0 E P At s w0 F0 w' b ids a F x:=
 ⟨h.aD.mod hm (fun q hq dK=>(hS q dK).2.2.2.1 hq),HP.zK h.pool hm (fun q hq dK=>(hS q dK).2.1 hq),h.met.mod hm (fun hq=>(hS _ hq).2.2.1 rfl),h.env.mod hm (fun q hq=>(hS q hq).2.2.2.2),h.apart,h.rZ,h.qH,h.sub,
  h.mod.trans hm (fun _ hq _=>hq) (fun q hq hl=>by have:=(hS q hq).1;omega)⟩
theorem bD.below (HP:iO W0 E P jt ja At can left Stp)(h:bD W0 E P At s w0 F0 w b ids a F x)(hb:Below w.heap.size w w'):bD W0 E P At s w0 F0 w' b ids a F x:=h.away HP (Mod.of_below hb []) (by simp)
theorem bD.own (HP:iO W0 E P jt ja At can left Stp)(h:bD W0 E P At s w0 F0 w b ids a F x){b':Int}{aK:List Nat}(hm:Mod S w w')(hS:∀q∈S,q∈s.blocks)(hs:dX w' s.sb s.qb s.rb s.jb s.k b' s.val aK):bD W0 E P At s w0 F0 w' b' aK a F x:=
 ⟨hs,HP.zK h.pool hm (fun q hq dK=>(h.apart q (hS q dK)).1 hq),h.met.mod hm (fun hq=>(h.apart _ (hS _ hq)).2.1 rfl),h.env.mod hm (fun q hq=>(h.apart q (hS q hq)).2.2),h.apart,h.rZ,h.qH,h.sub,
  h.mod.trans hm (fun _ hq _=>hq) (fun q hq _=>by simp[hS q hq])⟩
theorem bD.stepped (HP:iO W0 E P jt ja At can left Stp)(h:bD W0 E P At s w0 F0 w b ids a F x){a':α}{x':bL}(hA:At w' F' a')(hF:∀q∈F',q∈F∨w.heap.size≤q)(hM:aN w' P x')(hm:Mod (P.mb::F) w w'):bD W0 E P At s w0 F0 w' b ids a' F' x':=
 ⟨h.aD.mod hm (fun q hq dK=>by
   have:=h.apart q hq;rcases List.mem_cons.1 dK with h1|h1
   ·exact this.2.1 h1
   ·exact this.1 h1),hA,hM,h.env.mod hm (fun q hq=>by
   rcases List.mem_cons.1 hq with h1|h1
   ·rw[h1];exact h.rZ
   ·exact(HP.lt h.pool q h1).2),fun q hq=>⟨fun hq'=>by
   rcases hF q hq' with h1|h1
   ·exact(h.apart q hq).1 h1
   ·have:=h.aD.lt q hq;omega,(h.apart q hq).2⟩,h.rZ,h.qH,fun q hq=>by
   rcases hF q hq with h1|h1
   ·exact h.sub q h1
   ·exact .inr (Nat.le_trans h.size h1),
  h.mod.trans hm (fun _ hq _=>hq) (fun q hq hl=>by
   rcases List.mem_cons.1 hq with h1|h1
   ·simp[h1]
   ·rcases h.sub q h1 with h2|h2
    ·simp[h2]
    ·omega)⟩
def nL (P:MP)(s:SP)(F:List Nat)(v:Value):Prop:=∀g,v.ownBlock=some g→g∉P.mb::(s.blocks++F)
theorem bD.gI (HP:iO W0 E P jt ja At can left Stp)(h:bD W0 E P At s w0 F0 w b ids a F x):∀q∈P.mb::(s.blocks++F),q<w.heap.size:=by
 intro q hq;rcases List.mem_cons.1 hq with h1|h1
 ·rw[h1];exact h.met.lt
 ·rcases List.mem_append.1 h1 with h2|h2
  ·exact h.aD.lt q h2
  ·exact(HP.lt h.pool q h2).1
theorem nL.step {v:Value}{size:Nat}(h:nL P s F v)(hO:w.ownsRow base e size v n xs)(hF:∀q∈F',q∈F∨w.heap.size≤q):nL P s F' v:=fun g hg hq=>by
 have hl:=(hO.lt g hg).2;have hn:=h g hg;simp only[List.mem_cons,List.mem_append,not_or]at hn hq;rcases hq with h1|h1|h1
 ·exact hn.1 h1
 ·exact hn.2.1 h1
 ·rcases hF g h1 with h2|h2
  ·exact hn.2.2 h2
  ·omega
theorem bD.app (HP:iO W0 E P jt ja At can left Stp)(h:bD W0 E P At s w0 F0 w b ids a F x){v v':Value}{size:Nat}(hO:w.ownsRow base e size v n xs)(hb:w0.heap.size≤base)(hr:nL P s F v)(hg:nA w base v w' v'):bD W0 E P At s w0 F0 w' b ids a F x∧nL P s F v':=by
 refine⟨h.away HP (S:=v.ownBlock.toList) ⟨hg.kr.os,hg.kr.tape,hg.kr.output,hg.kr.size,fun k hk hn=>hg.kr.block k hk (fun e=>hn (by rw[←e];simp))⟩ (fun q hq=> ?_),fun g QN hq=> ?_⟩
 ·have hq':v.ownBlock=some q:=by simpa using hq
  have h1:=hr q hq';have h2:=(hO.lt q hq').1;have h3:=h.qH;simp only[List.mem_cons,List.mem_append,not_or]at h1;exact⟨by omega,h1.2.2,h1.1,h1.2.1,by omega⟩
 ·rcases hg.at_ with h1|⟨g',h1,h2⟩
  ·exact hr g (h1▸QN) hq
  ·rw[h1]at QN
   injection QN with QN
   have:=h.gI HP g hq;omega
end
section
variable {W0 w0 : World} {E : Nat → Addr} {P : MP} {α : Type} {jt : Nat → TypeId} {ja : Nat → Addr} {At : World → List Nat → α → Prop} {can : α → Nat → Prop} {left : α → Nat → Nat} {Stp : α → Nat → α → Prop}
theorem step_done (HP:iO W0 E P jt ja At can left Stp)(s:SP)(F0 F:List Nat)(b:Int)(ids:List Nat)(a:α)(x:bL)(id:Nat)(hc:can a id)(h0:left a id=0)(w:World)(h:bD W0 E P At s w0 F0 w b ids a F x):
  Calls Tryz.prog 170 #[eG s.sb,mP P,.iface (jt id) (.pointer (some (ja id)))] w fun e w'=>e= .returned (.bool false)∧Below w.heap.size w w':=by
 have:=HP.wS h.pool hc;rw[h0]at this;exact II s.sb (jt id) (ja id) (mP P) w (HP.OC hc) this
theorem Tq (HP:iO W0 E P jt ja At can left Stp)(s:SP)(F0 F:List Nat)(ids:List Nat)(a:α)(x:bL)(id:Nat)(hc:can a id)(h1:1≤left a id)(w:World)(h:bD W0 E P At s w0 F0 w 0 ids a F x):
  Calls Tryz.prog 170 #[eG s.sb,mP P,.iface (jt id) (.pointer (some (ja id)))] w fun e w'=>e= .returned (.bool false)∧Below w.heap.size w w':=by
 obtain⟨sp,hs⟩:=h.aD.blk;exact Gq s.sb s.qb s.jb s.k sp (left a id) h1 (jt id) (ja id) (mP P) w (HP.OC hc) (HP.wS h.pool hc) hs
theorem OD (HP:iO W0 E P jt ja At can left Stp)(s:SP)(F0 F:List Nat)(b:Nat)(hb:b≤999)(ids:List Nat)(a:α)(x:bL)(id:Nat)(hc:can a id)(h1:1≤left a id)(w:World)(h:bD W0 E P At s w0 F0 w ((b+1:Nat):Int) ids a F x):
  Calls Tryz.prog 170 #[eG s.sb,mP P,.iface (jt id) (.pointer (some (ja id)))] w fun e w'=>e= .returned (.bool true)∧∃a' F' x',Stp a id a'∧dL x x' 0 1∧bD W0 E P At s w0 F0 w' (b:Int) ids a' F' x'∧(∀q∈F',q∈F∨w.heap.size≤q)∧Mod (P.mb::(s.blocks++F)) w w':=by
 obtain⟨sp,hs⟩:=h.aD.blk;refine(Tn s.sb s.qb s.jb s.k sp b (left a id) h1 hb (jt id) (ja id) (mP P) (fun V V'=>∃a' F' x',Stp a id a'∧At V' F' a'∧(∀q∈F',q∈F∨V.heap.size≤q)∧aN V' P x'∧dL x x' 0 1∧Mod (P.mb::F) V V') w (HP.OC hc) (HP.wS h.pool hc) hs ?_).mono ?_
 ·intro V hm hsV;have hV:=h.own HP hm (by simp[SP.blocks]) (h.aD.bal hm hsV);exact HP.aaz hV.pool hc h1 hV.env hV.met
 ·rintro e w' ⟨rfl,V,hm,hsV,a',F',x',h2,h3,h4,h5,h6,h7⟩;have hV:=h.own HP hm (by simp[SP.blocks]) (h.aD.bal hm hsV)
  exact⟨rfl,a',F',x',h2,h6,hV.stepped HP h3 h4 h5 h7,fun q hq=>(h4 q hq).imp (fun hh=>hh) (fun hh=>Nat.le_trans hm.size hh),hm.trans h7 (fun q hq _=>by simp at hq;simp[hq,SP.blocks]) (fun q hq _=>by
   rcases List.mem_cons.1 hq with h8|h8
   ·simp[h8]
   ·simp[h8])⟩
theorem BG (HP:iO W0 E P jt ja At can left Stp)(s:SP)(F0 F:List Nat)(b:Int)(ids:List Nat)(a:α)(x:bL)(id:Nat)(hid:id∈ids)(lD:id≤1000)(w:World)(h:bD W0 E P At s w0 F0 w b ids a F x):
  Calls Tryz.prog 174 #[eG s.sb,nI id] w fun e w'=>e= .returned (.bool true)∧bD W0 E P At s w0 F0 w' b (ids.erase id) a F x∧Mod s.blocks w w':=
 (OB s.sb s.qb s.rb s.jb s.k b s.val ids id hid lD w h.aD).mono fun e w' ⟨h1,h2,h3⟩=>⟨h1,h.own HP h3 (by simp[SP.blocks]) h2,h3.more (by simp[SP.blocks])⟩
theorem BH (HP:iO W0 E P jt ja At can left Stp)(s:SP)(F0 F:List Nat)(b n:Int)(hn:0≤n∧n≤1000)(ids:List Nat)(a:α)(x:bL)(w:World)(h:bD W0 E P At s w0 F0 w b ids a F x):
  Calls Tryz.prog 168 #[eG s.sb,.int .i64 n] w fun e w'=>e= .returned undef∧bD W0 E P At s w0 F0 w' n ids a F x:=by
 obtain⟨sp,hs⟩:=h.aD.blk;exact(Tm s.sb s.qb s.jb s.k b sp n hn w hs).mono fun e w' ⟨h1,h2,h3⟩=>⟨h1,h.own HP h3 (by simp[SP.blocks]) (h.aD.bal h3 h2)⟩
end
inductive tF {α:Type}(left:α→Nat→Nat)(Stp:α→Nat→α→Prop):Nat→List Nat→α→List Nat→List Nat→α→Prop
 |nil (c:Nat) (a:α):tF left Stp c [] a [] [] a
 |broke (ids:List Nat) (a:α):tF left Stp 0 ids a [] ids a
 |ended {c id:Nat} {ids e aK:List Nat} {a a':α} (h:left a id=0) (r:tF left Stp (c+1) ids a e aK a'):tF left Stp (c+1) (id::ids) a (id::e) aK a'
 |step {c id:Nat} {ids e aK:List Nat} {a b a':α} (h:1≤left a id) (hs:Stp a id b) (r:tF left Stp c (id::ids) b e aK a'):tF left Stp (c+1) (id::ids) a e aK a'
end
end Go.Proofs.YtnfjjbpmhcbelaaGreatDoor
