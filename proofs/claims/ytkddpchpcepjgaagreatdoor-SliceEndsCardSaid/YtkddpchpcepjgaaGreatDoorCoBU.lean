/- A scheduler's New, Add, Remove by their contracts. -/
import Derived.Test.YtkddpchpcepjgaaGreatDoorCoBQ
import Derived.Maps.OwnIn
namespace Go.Proofs.YtkddpchpcepjgaaGreatDoor
set_option maxRecDepth 100000
set_option maxHeartbeats 4000000
open Go.RowKit cu Go.Shelf
theorem K1:type_of% @List.length_erase_of_mem:=@List.length_erase_of_mem
section
variable {id : Nat}
def jX (val:Nat->Value)(ids:List Nat):Int->Option Value:=λx=>if 0<=x/\x.toNat∈ids then some (val x.toNat)else none
structure eH (w:World)(sb qb rb jb:Nat)(k b:Int)(val:Nat->Value)(ids:List Nat):Prop where
 blk:∃s,nW w sb qb jb k b s
 Em:∃ring first,gI w qb rb ring first ids
 map:ji w jb ids.length (jX val ids)
 nd:ids.Nodup
 apart: [sb,qb,rb,jb].Nodup
section
variable {w w' : World} {sb qb rb jb : Nat} {k b : Int} {val : Nat -> Value} {ids : List Nat}
theorem eH.mod {S:List Nat}(h:eH w sb qb rb jb k b val ids)(hm:Mod S w w')(hs:∀q∈[sb,qb,rb,jb],q∉S):eH w' sb qb rb jb k b val ids:=by
 obtain⟨s,h1⟩:=h.blk;obtain⟨ring,first,h2⟩:=h.Em;exact⟨⟨s,h1.mod hm (hs _ (by simp))⟩,⟨ring,first,h2.mod hm (hs _ (by simp)) (hs _ (by simp))⟩,h.map.mod hm (hs _ (by simp)),h.nd,h.apart⟩
theorem eH.lt (h:eH w sb qb rb jb k b val ids):∀q∈[sb,qb,rb,jb],q<w.heap.size:=by
 obtain⟨s,h1⟩:=h.blk;obtain⟨ring,first,h2⟩:=h.Em;have:=h1.lt;have:=h2.lt;have:=h2.Mw;have:=h.map.lt;intro q hq;simp at hq
 rcases hq with rfl|rfl|rfl|rfl<;>assumption
theorem eH.many (h:eH w sb qb rb jb k b val ids):ids.length<=40:=by
 obtain⟨ring,first,h2⟩:=h.Em;exact h2.many
theorem eH.bal {b' s:Int}(h:eH w sb qb rb jb k b val ids)(hm:Mod [sb] w w')(hs:nW w' sb qb jb k b' s):eH w' sb qb rb jb k b' val ids:=by
 obtain⟨ring,first,h2⟩:=h.Em;have ha:=h.apart;simp at ha;refine⟨⟨s,hs⟩,⟨ring,first,h2.mod hm (by simp;omega) (by simp;omega)⟩,h.map.mod hm (by simp;omega),h.nd,h.apart⟩
end
theorem ze {val:Nat->Value}{ids:List Nat}(h:id∈ids):jX val ids (id:Int)=some (val id):=by
 unfold jX;rw[if_pos ⟨by omega,by simpa using h⟩];simp
theorem PY {val:Nat->Value}{ids:List Nat}(h:id∉ids):jX val ids (id:Int)=none:=by
 unfold jX;rw[if_neg];simpa using h
theorem RN {val:Nat->Value}{ids:List Nat}(hn:ids.Nodup)(y:Int):(if y=(id:Int)then none else jX val ids y)=jX val (ids.erase id) y:=by
 unfold jX;by_cases h:y=(id:Int)
 ·subst h;rw[if_pos rfl,if_neg];simp[hn.mem_erase_iff]
 ·rw[if_neg h];by_cases h0:0<=y
  ·have:y.toNat≠id:=by omega
   simp[hn.mem_erase_iff,h0,this]
  ·simp[h0]
theorem Vb {val:Nat->Value}{ids:List Nat}(y:Int):(if y=(id:Int)then some (val id)else jX val ids y)=jX val (ids++[id]) y:=by
 unfold jX;by_cases h:y=(id:Int)
 ·subst h;rw[if_pos rfl,if_pos (by simp)];simp
 ·rw[if_neg h];by_cases h0:0<=y
  ·have:y.toNat≠id:=by omega
   simp[h0,this]
  ·simp[h0]
theorem ada {ids:List Nat}(h:id∈ids):∃i,rH ids id=some i/\ids.eraseIdx i=ids.erase id:=by
 have h1:ids.idxOf id<ids.length:=List.idxOf_lt_length_of_mem h;refine⟨ids.idxOf id, ?_,(List.erase_eq_eraseIdx_of_idxOf rfl).symm⟩;unfold rH;have:ids.findIdx? (λx=>x==id)=some (ids.findIdx λx=>x==id):=List.findIdx?_eq_some_of_exists ⟨id,h,by simp⟩;rw[this];rfl
theorem aaQ {ids:List Nat}(h:id∉ids):rH ids id=none:=by
 unfold rH;rw[k7];intro x hx;simp;rintro rfl;exact h hx
theorem zf (id:Nat)(h:id<=1000):(Lit.int .i64 (id:Int)).wf=true:=by
 have h1:(IntKind.i64.min)= -9223372036854775808:=by decide
 have h2:(IntKind.i64.max)=9223372036854775807:=by decide
 simp only[Lit.wf,h1,h2,yk,Kf];omega
theorem PZ (sb qb rb jb:Nat)(k b:Int)(val:Nat->Value)(ids:List Nat)(id:Nat)(hid:id∈ids)(mH:id<=1000)(w:World)(h:eH w sb qb rb jb k b val ids):
  Calls Tryz.prog 177 #[fD sb,nI id] w λe w'=>e= .returned (.bool true)/\eH w' sb qb rb jb k b val (ids.erase id)/\Mod [qb,rb,jb] w w':=by
 obtain⟨i,hi1,hi2⟩:=ada hid;obtain⟨s,hb⟩:=h.blk;obtain⟨ring,first,hq⟩:=h.Em;have HQ:=qd hq;have hB:=qd hb;have HM:=qd h.map;have hnd:=qd h.nd;have hap:=qd h.apart;have aaR:=h.apart;simp at aaR;have HW:=qd (zf id mH);have HI:=qd hi1;have HI2:=qd hi2;have hlq:=hq.lt;have hlr:=hq.Mw;have hlb:=hb.lt
 have hln:(ids.length-if(jX val ids (id:Int)).isSome then 1 else 0)=(ids.erase id).length:=by rw[ze hid,K1 hid];simp
 have HN:=qd hln;unfold fD;clear h hb hq hi1 hi2 hln hid;have hs0:=aj.cell hB.o 0;have hs1:=aj.cell hB.o 3;have hs2:=aj.cell hB.o 4;simp only[gl]at hs0 hs1 hs2;go_in;go_wp2_with (at_delete;refine FN rfl _ _ rfl rfl HM.o _ rfl HW.o ?_;intro w1 hm1 vV;have ht1:=aj.cell (hB.o.mod vV (by simp;omega)) 3;simp only[gl]at ht1);replace HM:=qd (HN.o▸hm1);have ah:=qd vV;have hB2:=qd (hB.o.mod vV (by simp;omega));have HQ2:=qd (HQ.o.mod vV (by simp;omega) (by simp;omega));clear hs0 hs1 hs2 hm1 vV ht1;refine(PW qb rb ring first ids id i HI.o w1 HQ2.o).mono ?_;rintro x w2 ⟨rfl,⟨tQ,hq'⟩,hm⟩;have hfin:eH w2 sb qb rb jb k b val (ids.erase id):=⟨⟨s,hB2.o.mod hm (by simp;omega)⟩,⟨tQ,first,HI2.o▸hq'⟩,(HM.o.mod hm (by simp;omega)).congr (RN hnd.o),hnd.o.erase id,hap.o⟩;have HF:=qd hfin;replace ah:=qd (ah.o.trans hm (U:=[qb,rb,jb]) (by simp) (by simp<;>omega));clear hfin hq' hm;go_wp2;go_ret;exact⟨rfl,HF.o,ah.o⟩
theorem XG (sb qb rb jb:Nat)(k b:Int)(val:Nat->Value)(ids:List Nat)(id:Nat)(hid:id∉ids)(mH:id<=1000)(hroom:ids.length<40)(t:TypeId)(a:Addr)(hv:val id= .iface t (.pointer (some a)))(w:World)(h:eH w sb qb rb jb k b val ids):
  Calls Tryz.prog 170 #[fD sb,nI id,.iface t (.pointer (some a))] w λe w'=>e= .returned .nilIface/\eH w' sb qb rb jb k b val (ids++[id])/\Mod [qb,rb,jb] w w':=by
 obtain⟨s,hb⟩:=h.blk;obtain⟨ring,first,hq⟩:=h.Em;have HQ:=qd hq;have hB:=qd hb;have HM:=qd h.map;have hnd:=qd h.nd;have hap:=qd h.apart;have aaR:=h.apart;simp at aaR;have HW:=qd (zf id mH);have HI:=qd (aaQ hid);have HO:=qd hid;have HV:=qd hv;have hlq:=hq.lt;have hlr:=hq.Mw;have hlb:=hb.lt;have hlm:=HM.o.lt;have HNo:=qd (PY (val:=val) hid);unfold fD;clear h hb hq hid hv;have hs0:=aj.cell hB.o 0;have hs1:=aj.cell hB.o 3;have hs2:=aj.cell hB.o 4;simp only[gl]at hs0 hs1 hs2;go_in;go_wp2_with fail;refine(U8 qb rb ring first ids id HI.o hroom w HQ.o).mono ?_;rintro x w1 ⟨rfl,tQ,hq',hm⟩;have ah:=qd hm;replace hB:=qd (hB.o.mod hm (by simp;omega));replace HM:=qd (HM.o.mod hm (by simp;omega));replace HQ:=qd hq';clear hq' hm hs0 hs1 hs2;have hs0:=aj.cell hB.o 0;have hs1:=aj.cell hB.o 3;have hs2:=aj.cell hB.o 4;simp only[gl]at hs0 hs1 hs2;go_wp2_with (at_mapUpdate;refine Hq rfl _ _ _ rfl rfl HM.o (by unfold maxLen;omega) _ (.iface t (.pointer (some a))) rfl rfl HW.o HNo.o ?_;intro w2 hm1 vV)
 have hfin:eH w2 sb qb rb jb k b val (ids++[id]):=⟨⟨s,hB.o.mod vV (by simp;omega)⟩,⟨tQ,first,HQ.o.mod vV (by simp;omega) (by simp;omega)⟩,by rw[ZD];exact hm1.congr (λy=>by rw[<-Vb,HV.o]),by
  rw[yq];exact⟨hnd.o,by simp,by simp;exact λa ha he=>HO.o (he▸ha)⟩,hap.o⟩
 have HF:=qd hfin;replace ah:=qd (ah.o.trans vV (U:=[qb,rb,jb]) (by simp<;>omega) (by simp));clear hfin hm1 vV hs0 hs1 hs2;go_wp2;go_ret;exact⟨rfl,HF.o,ah.o⟩
theorem XH {E:Nat->Addr}(k:Int)(hk:1<=k/\k<=64)(val:Nat->Value)(w:World)(hE:vQ E w):
  Calls Tryz.prog 63 #[.int .i64 k] w λe w'=>∃sb qb rb jb,e= .returned (.tuple #[fD sb,.nilIface])/\eH w' sb qb rb jb k 0 val []/\(∀q∈[sb,qb,rb,jb],w.heap.size<=q)/\Below w.heap.size w w':=by
 have hB:=(Below.refl w.heap.size w).alloc (zb _) (.cells #[.int .i64 k,.int .i64 1,.int .i64 1] 23);have hC:=aj.new w 23 #[.int .i64 k,.int .i64 1,.int .i64 1];obtain⟨W,hW⟩:∃W,W=w.alloc (.cells #[.int .i64 k,.int .i64 1,.int .i64 1] 23):=⟨_,rfl⟩;rw[<-hW]at hB hC;have HP:=qd (xU k 1 1 W (hE.below hB (zb _)));rw[show(if jB k 1 1=true then Value.nilIface else eT E 1)=Value.nilIface from by rw[if_pos];simp[jB,BA,hk]]at HP;have hsz:=hC.lt;have HC:=qd hC;have HW:=qd hW;have HB:=qd hB;unfold eX at HP;unfold fD;have c:=hC.c3;clear hW hB hC hE hk;go_in;go_upto_region 2 with fail;rw[<-HW.o];go_wp2_with fail;refine HP.o.mono ?_;rintro x w1 ⟨rfl,hb⟩;replace HC:=qB hb HC;replace HB:=qd (HB.o.trans (hb.mono HB.o.size));have hz1:=hb.size;clear hb c;go_wp2_with fail;have HN:=XB w1;unfold qL at HN;refine HN.mono ?_;clear HN;rintro x w2 ⟨rfl,hq,hb⟩;obtain⟨qb,Bo⟩:∃q,q=w1.heap.size+1:=⟨_,rfl⟩;obtain⟨rb,hrb⟩:∃q,q=w1.heap.size:=⟨_,rfl⟩;rw[<-Bo,<-hrb]at hq;rw[<-Bo];replace HC:=qB hb HC;replace HB:=qd (HB.o.trans (hb.mono (qf HB.o.size (zb _))));have hz2:=hb.size;have hql:=hq.lt;have hrl:=hq.Mw;have HQ:=qd hq
 have aik:w.heap.size<=qb/\w.heap.size<=rb/\qb≠rb:=by omega
 clear hb hq Bo hrb;have c:=HC.o.c3;have hmm:=@run_makeMap Tryz.prog;go_wp2
 have hfin:eH ((w2.alloc (.map #[] 0)).alloc (.cells #[.int .i64 k,.int .i64 1,.int .i64 1,pQ qb,.map (some w2.heap.size),.int .i64 0,.float .f64 0,.int .i64 0] 186)) (w2.heap.size+1) qb rb w2.heap.size k 0 val []:=by
  have hm:=(Mod.refl [] w2).alloc (.map #[] 0);have hm2:=(Mod.refl [] (w2.alloc (.map #[] 0))).alloc (.cells #[.int .i64 k,.int .i64 1,.int .i64 1,pQ qb,.map (some w2.heap.size),.int .i64 0,.float .f64 0,.int .i64 0] 186);refine⟨⟨0, ?_⟩,⟨_,0,(HQ.o.mod hm (by simp) (by simp)).mod hm2 (by simp) (by simp)⟩,((ji.made w2).mod hm2 (by simp)).congr (λx=>by simp[jX]),by simp,by simp;omega⟩;have:=aj.new (w2.alloc (.map #[] 0)) 186 #[.int .i64 k,.int .i64 1,.int .i64 1,pQ qb,.map (some w2.heap.size),.int .i64 0,.float .f64 0,.int .i64 0];rw[xN]at this;exact this
 have hsz2:w.heap.size<=w2.heap.size:=HB.o.size;refine bodyPost_ret (v:= .tuple #[.pointer (some ⟨w2.heap.size+1,0,none⟩),.nilIface]) (by simp[results,Tryz.results63,go_sem]) rfl ?_;refine⟨_,_,_,_,rfl,hfin, ?_, ?_⟩
 ·first|omega|(simp;omega)
 ·exact(HB.o.alloc hsz2 _).alloc (by simp;omega) _
end
section
attribute [local go_sem] k9
def qY (A:World)(ob:Nat):Option Nat:=(A.cell? ⟨ob,0,none⟩).bind Value.ownBlock
structure tV (n₀ ob:Nat)(A B:World):Prop where
 keep:aZ n₀ [ob] A B
 cells:∀(k:Nat) (o:Obj),A.heap[k]?=some o->o.isCells=true->k≠ob->qY A ob≠some k->B.heap[k]?=some o
 row:∀k,qY B ob=some k->qY A ob=some k\/A.heap.size<=k
theorem tV.refl (n₀ ob:Nat)(A:World):tV n₀ ob A A:=⟨aZ.refl _ _ _,λ_ _ h _ _ _=>h,λ_ h=> .inl h⟩
theorem Ti {n₀ ob:Nat}{A B C:World}(h:tV n₀ ob A B)(k:tV n₀ ob B C):tV n₀ ob A C:=
 ⟨dW h.keep k.keep,λi o hi hc hne hr=>k.cells i o (h.cells i o hi hc hne hr) hc hne (λe=>by
  rcases h.row i e with h1|h1
  ·exact hr h1
  ·have:=(qi.1 hi).1;omega),λi hi=>by
  rcases k.row i hi with h1|h1
  ·exact h.row i h1
  ·exact .inr (qf h.keep.size h1)⟩
theorem adb {n₀ ob:Nat}{w:World}(hn:n₀<=w.heap.size)(nA:ob<w.heap.size)(W:World)(l:Nat)(o o':Obj)(hl:w.heap.size<=l)(h1:W.heap[l]?=some o)(h2:o.isCells=false)(h3:o.isWalk=false):tV n₀ ob W (W.putObj l o'):=
 ⟨yA hn W l o o' hl h1 h2 h3,λk x hk hc hne _=>(World.putObj_heap_other (λe=>by rw[e,h1]at hk;injection hk with hk;rw[hk,hc]at h2;cases h2)).trans hk,λk hk=> .inl (by
  have:(W.putObj l o').cell? ⟨ob,0,none⟩=W.cell? ⟨ob,0,none⟩:=World.cell?_of_block (World.putObj_heap_other (by show ob≠l;omega));unfold qY at hk|-
  rwa [this]at hk)⟩
def En (ids:List Nat)(x:Fin ids.length):Nat:=ids.getD x.val 0
abbrev acg (ids:List Nat)(x:Fin ids.length):Array Value:= #[nI x.val,.int .i64 ((En ids x:Nat):Int)]
theorem NP {n j:Nat}(h:j<n):(List.finRange n).take (j+1)=(List.finRange n).take j++[⟨j,h⟩]:=by
 rw[J0,zg (by simpa using h)];simp
theorem XI (q:Nat)(hq:1<=q)(n₀ ob bx qb rb:Nat)(ring:List Nat)(first:Nat)(ids:List Nat)(w:World)(hbx:w.cell? ⟨bx,0,none⟩=some (pQ qb))(hbl:bx<w.heap.size)
  (h:gI w qb rb ring first ids) (nA:ob<w.heap.size) (hnil:w.cell? ⟨ob,0,none⟩=some (.slice none 0 0)):
  SeqStopsK (α:=Fin ids.length) Fence.wide q Tryz.prog 236 #[pQ bx] (acg ids) (tV n₀ ob) (λys=>ys=List.finRange ids.length) (λ_=>True) 64 w:=by
 intro lp J Jx W hW hJ _ hY h0;have hmn:=h.many;have hWl:=hW.size;have ail:W.cell? ⟨bx,0,none⟩=some (pQ qb):=(hW.cell (p:=⟨bx,0,none⟩) hbl).trans hbx;have hQW:=h.mod (Mod.of_below hW []) (by simp) (by simp);have HL:=qd (vg (q:=q-1) (Cq qb rb ring first ids W hQW));unfold qL at HL;have ach:W.cell? ⟨ob,0,none⟩=some (.slice none 0 0):=(hW.cell (p:=⟨ob,0,none⟩) nA).trans hnil;have HJ:=qd hJ;have agn:=qd ach;obtain⟨n,hn⟩:∃n,n=ids.length:=⟨_,rfl⟩
 have aef:n<=40:=by omega
 have HN:=qd hn;rw[<-hn]at HL;clear h hQW hbx hnil hJ hn ach;refine callsIn_of_wp Tryz.func236 rfl trivial ?_ rfl;simp only[Tryz.ntmps236,xn,ZS,yv,Nat.reduceAdd,Nat.reduceSub,j0,j7,xo,JS,ya,yb]
 gi_wp2_with (refine⟨trivial, ?_⟩;gi_at_call 237;refine HL.o.mono ?_;rintro e w' ⟨A,c,rfl,hO,hB⟩)
 gi_loopw [3,4,8] (λ_ _ i wr=>∃j:Nat,j<=n/\i=nI j/\J ((List.finRange ids.length).take j) wr/\tV n₀ ob w' wr) (λ_ _ i _=>n-(intOf i).toNat)
 case atStart=>
  refine⟨0,Q4 _,rfl, ?_,tV.refl _ _ _⟩;exact HJ.o [] W w' none h0 ⟨hB.os,hB.tape,hB.output,hB.size,λk hk _=>hB.block k hk⟩ (λr hr=>by cases hr)
 case round=>
  obtain⟨j,hj,rfl,hJj,hK⟩:=hrel;by_cases hlt:j<n
  ·have hlt':(j:Int)<(n:Int):=by omega
   have hnn:=HN.o
   have hji:j<ids.length:=by omega
   have hlen:((List.finRange ids.length).take j).length<64:=by simp;omega
   obtain⟨fn,tmps,assign,body,hy,xH⟩:=hY _ ⟨j,hji⟩ wr hJj hlen;have HS:=qd (NP hji);obtain⟨g,rfl,hge,hgl,hce,hln⟩:=nS hO (zg hji)
   have ain:wr.cell? ⟨g,j,none⟩=some (.int .i64 ((ids.getD j 0:Nat):Int)):=by
    obtain⟨o,ho⟩:∃o,w'.heap[g]?=some o:=⟨_,Array.getElem?_eq_getElem hgl⟩
    have hbr:qY w' ob=none:=by
     unfold qY;rw[(hB.cell (p:=⟨ob,0,none⟩) (yp nA hWl)).trans agn.o];rfl
    have hcl:o.isCells=true:=by
     have:=hce;unfold World.cell? at this;simp only[ho]at this
     cases o<;>simp at this<;>rfl
    have:=hK.cells g o ho hcl (by omega) (by rw[hbr];simp);rw[World.cell?_of_block (w:=w') (a:=⟨g,j,none⟩) (this.trans ho.symm),hce,zv,zg hji];rfl
   simp only[acg,En]at hy xH;generalize ids.getD j 0=x at*;clear hce hnn hln hO hge hgl
   have hj0:(0:Int)<=(j:Int):=by omega
   gi_wp2
   refine xH.mono ?_;rintro e W3 (⟨rfl,hJ3,hk3⟩|⟨rfl,hJx3⟩)
   ·gi_wp2
    go_roundw
    case rel=>exact⟨j+1,by omega,by go_num,by rw[HS.o];exact hJ3,Ti hK hk3⟩
    case measure=>simp[intOf];omega
   ·gi_wp2
    refine bodyPost_ret (vx rfl _ _ _) rfl ?_;exact⟨⟨_,rfl⟩,.inr ⟨_,trivial,hJx3⟩⟩
  ·obtain rfl:j=n:=by omega
   have hlt':¬(j:Int)<(j:Int):=by omega
   have hw:(List.finRange ids.length).take j=List.finRange ids.length:=ym (by rw[List.length_finRange];exact Nat.le_of_eq HN.o.symm);rw[hw]at hJj;clear hw
   gi_wp2
   go_end0
   first|exact⟨⟨_,rfl⟩,.inl ⟨_,rfl,hJj⟩⟩|exact⟨⟨_,rfl⟩,.inl hJj⟩
theorem XJ (qb:Nat)(w:World):Calls Tryz.prog 215 #[qL qb] w λe w'=>e= .returned (.func (.func 236) #[] #[pQ w.heap.size])/\w.alloc (.cells #[pQ qb] 181)=w':=by
 unfold qL;go_in;go_wp2;go_ret;exact⟨rfl,rfl⟩
end
section
variable {t : TypeId} {base : Nat} {v : Value}
attribute [local go_sem] k9
theorem Ht {F:Fence}{fu:Nat}{P:Program}{w0:World}{ops:Array Oper}{rest:List Oper}{o:Oper}{a:Act}{Q:Exit->Act->World->Prop}(hgd:o.guard=none){s x:Operand}(ho:o.op= .call {callee:= .builtin .append,args:= #[s,x],argTypes:= #[t,t]}){e:TypeId}{size bytes:Nat}(hT:sZ P t e size bytes){n:Nat}{xs:List Value}(hown:w0.ownsRow base e size v n xs)(hs:a.eval s=v){cs:Array Value}{t':TypeId}{c:Nat}{g:Nat}(hx:a.eval x= .slice (some ⟨g,0,none⟩) 1 c)(hg0:g=w0.heap.size)(hl:cs.size=size)(h1':(cs.toList.all λu=>u.oneCell')=true)(hn:n<33554432)(hbase:base<=w0.heap.size)(h:∀v' w',w'.ownsRow base e size v' (n+1) (xs++cs.toList)->o9 w0 base v w' v'->wpListIn F fu P ops Q rest (a.put o.dst v') w'):
  wpListIn F fu P ops Q (o::rest) a (w0.alloc (.cells cs t')):=by
 obtain⟨i,z,ht,hi,hz,hsize,hby,hzs,hsz,hb⟩:=hT;have h1:∀u∈cs.toList,u.oneCell'=true:=kz.1 h1';subst hg0
 refine wpListIn_append_own_at (w0.alloc (.cells cs t')) hgd s x t ho base e i z size bytes ht hi hz hsize hby hzs hsz v n xs hs (hown.alloc _) ⟨w0.heap.size,0,none⟩ 1 c cs.toList hx (by simp[hl]) ?_ h1
  (by simp only[maxLen];omega) ?_ (by simp;omega) ?_
 ·intro j u hj
  have hadd:(⟨w0.heap.size,0,none⟩:Addr).add j=⟨w0.heap.size,j,none⟩:=by unfold Addr.add;split<;>simp_all
  rw[hadd,(aj.new w0 t' cs).cell];simpa using hj
 ·have:(n+1)*bytes<=33554432*4096:=vp (by omega) hb;omega
 ·intro v' w' hown' hg _ hat;have hlt:=hown.lt;have hb0:Below base w0 (w0.alloc (.cells cs t')):=(Below.refl _ _).alloc hbase _;refine h v' w' hown' ⟨hb0.grown hg (by simp;omega) (λk hk=>(hlt k hk).1),⟨hg.os,hg.tape,hg.output,by have:=hg.size;simp at this;omega,λk hk hne=> ?_⟩, ?_⟩
  ·exact(hg.block k (by simp;omega) hne).trans (Below.heap_alloc w0 _ k hk)
  ·rcases hat with hat|hat
   ·exact .inl hat
   ·exact .inr ⟨_,hat,by simp⟩
def MC (ids:List Nat)(pre:List (Fin ids.length)):List Nat:=pre.map (En ids)
theorem ade (ids:List Nat):MC ids (List.finRange ids.length)=ids:=by
 unfold MC;apply List.ext_getElem
 ·simp
 ·intro i h1 h2;simp only[List.getElem_map,List.getElem_finRange,En];rw[zv,zg (by simpa using h2)];rfl
theorem aaS (ids:List Nat)(pre:List (Fin ids.length))(x:Fin ids.length):dK (MC ids (pre++[x]))=dK (MC ids pre)++[.int .i64 ((En ids x:Nat):Int)]:=by simp[MC,dK]
theorem XK {n₀ ob:Nat}{V w4:World}{v4:Value}(xJ:Boxed V ob t v)(hg:o9 V base v w4 v4)(hK:aZ n₀ [ob] V (w4.setCell ⟨ob,0,none⟩ v4))(hB4:Boxed (w4.setCell ⟨ob,0,none⟩ v4) ob t v4):tV n₀ ob V (w4.setCell ⟨ob,0,none⟩ v4):=by
 have hr:qY V ob=v.ownBlock:=by unfold qY;rw[xJ.cell];rfl
 have hr4:qY (w4.setCell ⟨ob,0,none⟩ v4) ob=v4.ownBlock:=by unfold qY;rw[hB4.cell];rfl
 refine⟨hK,λk o hk hc hne hro=> ?_,λk hk=> ?_⟩
 ·have hlt:=(qi.1 hk).1;rw[Below.heap_setCell _ _ _ _ hne];rw[hr]at hro;exact(hg.lH.block k hlt (λe=>hro e.symm)).trans hk
 ·rw[hr4]at hk;rw[hr];rcases hg.at_ with h1|⟨g,h1,h2⟩
  ·exact .inl (h1▸hk)
  ·rw[h1]at hk
   injection hk with hk
   subst hk;exact .inr h2
theorem ME (sb qb rb jb:Nat)(k b:Int)(val:Nat->Value)(ids:List Nat)(w:World)(h:eH w sb qb rb jb k b val ids):
  Calls Tryz.prog 176 #[fD sb] w λe w'=>∃A c,e= .returned (.slice A ids.length c)/\w'.ownsRow w.heap.size 3 1 (.slice A ids.length c) ids.length (dK ids)/\Below w.heap.size w w':=by
 obtain⟨s,hb⟩:=h.blk;obtain⟨ring,first,hq⟩:=h.Em;have hmn:=h.many;have hB:=(Below.refl w.heap.size w).alloc (zb _) (.cells #[.slice none 0 0] 178);have hO:=aj.new w 178 #[.slice none 0 0];obtain⟨W,hW⟩:∃W,W=w.alloc (.cells #[.slice none 0 0] 178):=⟨_,rfl⟩;rw[<-hW]at hB hO;have hQ:=hq.mod (Mod.of_below hB []) (by simp) (by simp);have hS:=hb.mod (Mod.of_below hB []) (by simp);have hsl:=hS.lt;have HW:=qd hW;have HB:=qd hB;unfold fD;have v0:=aj.cell hS 3;simp only[gl]at v0;clear hW hB h hb hq hS;refine(vu (n:=10)).1 ?_
 have h1:1<=10:=by omega
 refine mD Tryz.func176 rfl trivial rfl ?_;simp only[Tryz.ntmps176,xn,ZS,yv,Nat.reduceAdd,Nat.reduceSub,j0,j7,xo,JS,ya,yb];refine VC.2 ?_;go_upto_region 2 with fail;rw[<-HW.o];go_wp2_with fail;refine(XJ qb _).mono ?_;rintro e w1 ⟨rfl,hw1⟩;have hb1:Below W.heap.size W w1:=hw1▸(Below.refl W.heap.size W).alloc (zb _) _;have hX1:aj w1 W.heap.size 181 #[pQ qb]:=hw1▸aj.new W _ _;clear hw1;go_wp2_with fail;refine(VC (n:=10)).1 ?_;have hB1:Below w.heap.size w w1:=bN hb1 HB.o;have hlt3:w.heap.size<W.heap.size:=hO.lt;have zD:Boxed w1 w.heap.size 178 (.slice none 0 0):=hO.below hb1 hO.lt;have hQ1:=hQ.mod (Mod.of_below hb1 []) (by simp) (by simp);have hbl:=hB1.size;have hbs:=hb1.size;clear hQ v0
 refine wpIn_rangeFunc_ownH rfl h1 (gf:=236) (lb:= #[pQ W.heap.size]) rfl trivial (enters_of Tryz.func236 (by kernel_rfl) rfl)
  (XI (10-1) (by omega) w1.heap.size w.heap.size W.heap.size qb rb ring first ids w1 (hX1.cell 0) hX1.lt hQ1 (by omega) zD.cell) Ti (adb (zb _) (by omega)) (Below.refl _ _) (λ_=>rfl)
  (λpre V=>(∃v,Boxed V w.heap.size 178 v/\V.ownsRow w1.heap.size 3 1 v pre.length (dK (MC ids pre))/\True)/\aZ w1.heap.size [w.heap.size] w1 V)
  (λ_ _ _=>False)
  (OwnFrom.and (Own.from (holdsRow_own w1.heap.size w.heap.size 178 3 1 List.length (λpre=>dK (MC ids pre)) (λ_ _=>True)) _) (rz (zb _) (zb _)))
  (λ_ _ _ _ _ hs _ _=>hs)
  ⟨⟨_,zD,⟨by simp[MC,dK],.inl ⟨rfl,rfl⟩⟩,trivial⟩,aZ.refl _ _ _⟩
  (λx a' _=>a'={tmps:= #[pQ sb,undef,.slice none 0 0,pQ w.heap.size,undef,.int .i64 ((En ids x:Nat):Int),pQ sb,pQ sb,.pointer (some ⟨sb,3,none⟩),pQ qb,.func (.func 236) #[] #[pQ W.heap.size],nI x.val,.int .i64 ((En ids x:Nat):Int),undef,undef,undef,undef,undef],defers:=[]})
  (λ_ _ _ _ _ _ hs _ _=>hs) ?assign ?body ?done ?stop
 case assign=>
  rintro lp pre x V K hi hK
  gi_wp2
  exact hK _ _ (KeepsFrom.refl _ _) (tV.refl _ _ _) hi rfl
 case body=>
  rintro lp pre x a' V hl ⟨r,hr⟩ ⟨⟨v,xJ,hO,-⟩,pR⟩ rfl hlt;obtain⟨A,c,rfl⟩:=bq hO;have ho:=xJ.cell;have aio:=xJ.lt;have eO:=qd (aaS ids pre x);have DT:=pR.size;generalize En ids x=id at*
  gi_wp2_with (gi_at_builtin;refine Ht rfl rfl za hO rfl rfl rfl rfl rfl (by omega) (by omega) ?_;intro v4 w4 dM iP;obtain⟨A4,c4,rfl⟩:=bq dM;have hox:Boxed w4 w.heap.size 178 (.slice A pre.length c):=(iP.below.block _ (by omega)).trans xJ;have o4:=hox.cell;have f4:=hox.frozen)
  have hfin:Boxed (w4.setCell ⟨w.heap.size,0,none⟩ (.slice A4 (pre.length+1) c4)) w.heap.size 178 (.slice A4 (pre.length+1) c4):=hox.set _
  have ZY:(Value.slice A4 (pre.length+1) c4).ownBlock≠some w.heap.size:=λhe=>by
   have:=(dM.lt _ he).1;omega
  have hown5:=dM.kept (grownBy_setCell' w4 w.heap.size (.slice A4 (pre.length+1) c4)) (.inr ZY);have hK4:aZ w1.heap.size [w.heap.size] w1 w4:=dW pR (aZ.of_below iP.below);have DU:KeepsFrom w1.heap.size V w4:=CZ DT (Below.refl _ _) hO iP;have xg:=DU.trans ((KeepsOthers.setCell w4 ⟨w.heap.size,0,none⟩ (.slice A4 (pre.length+1) c4)).from _);have zF:aZ w1.heap.size [w.heap.size] w1 (w4.setCell ⟨w.heap.size,0,none⟩ (.slice A4 (pre.length+1) c4)):=hK4.ak (.inl (by simp)) _ _;have WL:aZ w1.heap.size [w.heap.size] V (w4.setCell ⟨w.heap.size,0,none⟩ (.slice A4 (pre.length+1) c4)):=(aZ.of_below iP.below).ak (.inl (by simp)) _ _;have hKO:=XK xJ iP WL hfin;have HE:=qd (And.intro xg (And.intro hKO (And.intro (And.intro hfin hown5) zF)));clear xg WL hfin hown5 zF DU hK4 dM iP hox hKO
  first|gi_wp2|skip
  exact⟨HE.o.1,HE.o.2.1,⟨_,HE.o.2.2.1.1,by rw[eO.o,ZD];exact HE.o.2.2.1.2⟩,HE.o.2.2.2⟩
 case done=>
  rintro D ys V hD hys ⟨⟨v,xJ,hO,-⟩,pR⟩ rY;obtain⟨A,c,rfl⟩:=bq hO;have ho:=xJ.cell;subst hys
  have hlen:(List.finRange ids.length).length=ids.length:=by simp
  rw[ade,hlen]at hO;rw[hlen]at xJ ho;have SA:=(Mod.of_below hB1 [w.heap.size]).then pR.mod;have iB:=qd hO;clear hO;go_wp2;refine yB ⟨by simp,.inl ⟨_,_,rfl,run_takeDeferred rY, ?_⟩⟩;refine⟨.slice A ids.length c, ?_,A,c,rfl, ?_, ?_⟩
  ·simp[results,Tryz.f176,go_sem]
  ·exact rG (ownsRow_putObj iB.o _ rY rfl) (by omega)
  ·exact(SA.below (by simp) (zb _)).trans (belowK_b (w:=w) (zb _) V D _ _ (by omega) rY rfl rfl)
 case stop=>
  rintro D c pre V hD hS hI;exact hI.elim
end
section
variable {x y : bS} {base n p q u : Nat} {F' S : List Nat} {e : TypeId} {xs : List Value}
def dU (x x':bS)(p u:Nat):Prop:=0<=x.last.p->0<=x.last.u->0<=x'.last.p/\x'.last.p<=x.last.p+p/\0<=x'.last.u/\x'.last.u<=x.last.u+u
theorem dU.refl (x:bS):dU x x 0 0:=λh1 h2=>⟨h1,by omega,h2,by omega⟩
theorem dU.trans {z:bS}{v:Nat}(h:dU x y p u)(k:dU y z q v):dU x z (p+q) (u+v):=λh1 h2=>by
 obtain⟨a,b,c,d⟩:=h h1 h2;obtain⟨a',b',c',d'⟩:=k a c;exact⟨a',by omega,c',by omega⟩
theorem dU.mono {v:Nat}(h:dU x y p u)(hp:p<=q)(hu:u<=v):dU x y q v:=λh1 h2=>by
 obtain⟨a,b,c,d⟩:=h h1 h2;exact⟨a,by omega,c,by omega⟩
def nX (P:MP):Value:= .pointer (some ⟨P.mb,P.mo,none⟩)
structure jk (W0:World)(E:Nat->Addr)(P:MP){α:Type}(jt:Nat->TypeId)(ja:Nat->Addr)(At:World->List Nat->α->Prop)(can:α->Nat->Prop)(left:α->Nat->Nat)(Stp:α->Nat->α->Prop):Prop where
 P5:∀{a id},can a id->Au (jt id)
 lt:∀{V F a},At V F a->∀q∈F,q<V.heap.size/\W0.heap.size<=q
 mb:∀{V F a},At V F a->P.mb∉F
 Av:∀{V V' F S a},At V F a->Mod S V V'->(∀q∈F,q∉S)->At V' F a
 le:∀{V F a id},At V F a->can a id->left a id<=1000
 xY:∀{V F a id},At V F a->can a id->Calls Tryz.prog (jW (jt id)) #[.pointer (some (ja id))] V λe V'=>e= .returned (.int .i64 (left a id:Int))/\Below V.heap.size V V'
 aci:∀{V F a id x},At V F a->can a id->1<=left a id->Env W0 E V->aN V P x->Calls Tryz.prog (xX (jt id)) #[.pointer (some (ja id)),nX P] V λe V'=>e= .returned (.bool true)/\∃a' F' x',Stp a id a'/\At V' F' a'/\(∀q∈F',q∈F\/V.heap.size<=q)/\aN V' P x'/\dU x x' 0 1/\Mod (P.mb::F) V V'
 jL:∀{a id a' j},Stp a id a'->can a j->can a' j
 MF:∀{a id a' j},Stp a id a'->j≠id->left a' j=left a j
 Eo:∀{a id a'},Stp a id a'->left a' id+1=left a id
structure SP where
 sb:Nat
 qb:Nat
 rb:Nat
 jb:Nat
 k:Int
 val:Nat->Value
def SP.blocks (s:SP):List Nat:=[s.sb,s.qb,s.rb,s.jb]
structure bH (W0:World)(E:Nat->Addr)(P:MP){α:Type}(At:World->List Nat->α->Prop)(s:SP)(w0:World)(F0:List Nat)(w:World)(b:Int)(ids:List Nat)(a:α)(F:List Nat)(x:bS):Prop where
 aF:eH w s.sb s.qb s.rb s.jb s.k b s.val ids
 pool:At w F a
 met:aN w P x
 env:Env W0 E w
 apart:∀q∈s.blocks,q∉F/\q≠P.mb/\W0.heap.size<=q
 sJ:W0.heap.size<=P.mb
 qN:W0.heap.size<=w0.heap.size
 sub:∀q∈F,q∈F0\/w0.heap.size<=q
 mod:Mod (P.mb::(s.blocks++F0)) w0 w
section
variable {W0 w0 w w' : World} {E : Nat -> Addr} {P : MP} {α : Type} {jt : Nat -> TypeId} {ja : Nat -> Addr} {At : World -> List Nat -> α -> Prop} {can : α -> Nat -> Prop} {left : α -> Nat -> Nat} {Stp : α -> Nat -> α -> Prop}
 {s:SP} {F0 F:List Nat} {b:Int} {ids:List Nat} {a:α} {x:bS}
theorem bH.size (h:bH W0 E P At s w0 F0 w b ids a F x):w0.heap.size<=w.heap.size:=h.mod.size
theorem bH.start (hs:eH w s.sb s.qb s.rb s.jb s.k b s.val ids)(hp:At w F a)(hm:aN w P x)(he:Env W0 E w)(ha:∀q∈s.blocks,q∉F/\q≠P.mb/\W0.heap.size<=q)(hmb:W0.heap.size<=P.mb):bH W0 E P At s w F w b ids a F x:=
 ⟨hs,hp,hm,he,ha,hmb,he.size,λ_ h=> .inl h,Mod.refl _ _⟩
theorem bH.away (HP:jk W0 E P jt ja At can left Stp)(h:bH W0 E P At s w0 F0 w b ids a F x)(hm:Mod S w w')(hS:∀q∈S,w0.heap.size<=q/\q∉F/\q≠P.mb/\q∉s.blocks/\W0.heap.size<=q):bH W0 E P At s w0 F0 w' b ids a F x:=
 ⟨h.aF.mod hm (λq hq dS=>(hS q dS).2.2.2.1 hq),HP.Av h.pool hm (λq hq dS=>(hS q dS).2.1 hq),h.met.mod hm (λhq=>(hS _ hq).2.2.1 rfl),h.env.mod hm (λq hq=>(hS q hq).2.2.2.2),h.apart,h.sJ,h.qN,h.sub,
  h.mod.trans hm (λ_ hq _=>hq) (λq hq hl=>by have:=(hS q hq).1;omega)⟩
theorem bH.below (HP:jk W0 E P jt ja At can left Stp)(h:bH W0 E P At s w0 F0 w b ids a F x)(hb:Below w.heap.size w w'):bH W0 E P At s w0 F0 w' b ids a F x:=h.away HP (Mod.of_below hb []) (by simp)
theorem bH.own (HP:jk W0 E P jt ja At can left Stp)(h:bH W0 E P At s w0 F0 w b ids a F x){b':Int}{aL:List Nat}(hm:Mod S w w')(hS:∀q∈S,q∈s.blocks)(hs:eH w' s.sb s.qb s.rb s.jb s.k b' s.val aL):bH W0 E P At s w0 F0 w' b' aL a F x:=
 ⟨hs,HP.Av h.pool hm (λq hq dS=>(h.apart q (hS q dS)).1 hq),h.met.mod hm (λhq=>(h.apart _ (hS _ hq)).2.1 rfl),h.env.mod hm (λq hq=>(h.apart q (hS q hq)).2.2),h.apart,h.sJ,h.qN,h.sub,
  h.mod.trans hm (λ_ hq _=>hq) (λq hq _=>by simp[hS q hq])⟩
theorem bH.stepped (HP:jk W0 E P jt ja At can left Stp)(h:bH W0 E P At s w0 F0 w b ids a F x){a':α}{x':bS}(hA:At w' F' a')(hF:∀q∈F',q∈F\/w.heap.size<=q)(hM:aN w' P x')(hm:Mod (P.mb::F) w w'):bH W0 E P At s w0 F0 w' b ids a' F' x':=
 ⟨h.aF.mod hm (λq hq dS=>by
   have:=h.apart q hq;rcases zt.1 dS with h1|h1
   ·exact this.2.1 h1
   ·exact this.1 h1),hA,hM,h.env.mod hm (λq hq=>by
   rcases zt.1 hq with h1|h1
   ·rw[h1];exact h.sJ
   ·exact(HP.lt h.pool q h1).2),λq hq=>⟨λhq'=>by
   rcases hF q hq' with h1|h1
   ·exact(h.apart q hq).1 h1
   ·have:=h.aF.lt q hq;omega,(h.apart q hq).2⟩,h.sJ,h.qN,λq hq=>by
   rcases hF q hq with h1|h1
   ·exact h.sub q h1
   ·exact .inr (qf h.size h1),
  h.mod.trans hm (λ_ hq _=>hq) (λq hq hl=>by
   rcases zt.1 hq with h1|h1
   ·simp[h1]
   ·rcases h.sub q h1 with h2|h2
    ·simp[h2]
    ·omega)⟩
def oN (P:MP)(s:SP)(F:List Nat)(v:Value):Prop:=∀g,v.ownBlock=some g->g∉P.mb::(s.blocks++F)
theorem bH.fC (HP:jk W0 E P jt ja At can left Stp)(h:bH W0 E P At s w0 F0 w b ids a F x):∀q∈P.mb::(s.blocks++F),q<w.heap.size:=by
 intro q hq;rcases zt.1 hq with h1|h1
 ·rw[h1];exact h.met.lt
 ·rcases Zs.1 h1 with h2|h2
  ·exact h.aF.lt q h2
  ·exact(HP.lt h.pool q h2).1
theorem oN.step {v:Value}{size:Nat}(h:oN P s F v)(hO:w.ownsRow base e size v n xs)(hF:∀q∈F',q∈F\/w.heap.size<=q):oN P s F' v:=λg hg hq=>by
 have hl:=(hO.lt g hg).2;have hn:=h g hg;simp only[zt,Zs,not_or]at hn hq;rcases hq with h1|h1|h1
 ·exact hn.1 h1
 ·exact hn.2.1 h1
 ·rcases hF g h1 with h2|h2
  ·exact hn.2.2 h2
  ·omega
theorem bH.app (HP:jk W0 E P jt ja At can left Stp)(h:bH W0 E P At s w0 F0 w b ids a F x){v v':Value}{size:Nat}(hO:w.ownsRow base e size v n xs)(hb:w0.heap.size<=base)(hr:oN P s F v)(hg:o9 w base v w' v'):bH W0 E P At s w0 F0 w' b ids a F x/\oN P s F v':=by
 refine⟨h.away HP (S:=v.ownBlock.toList) ⟨hg.lH.os,hg.lH.tape,hg.lH.output,hg.lH.size,λk hk hn=>hg.lH.block k hk (λe=>hn (by rw[<-e];simp))⟩ (λq hq=> ?_),λg hgq hq=> ?_⟩
 ·have hq':v.ownBlock=some q:=by simpa using hq
  have h1:=hr q hq';have h2:=(hO.lt q hq').1;have h3:=h.qN;simp only[zt,Zs,not_or]at h1;exact⟨by omega,h1.2.2,h1.1,h1.2.1,by omega⟩
 ·rcases hg.at_ with h1|⟨g',h1,h2⟩
  ·exact hr g (h1▸hgq) hq
  ·rw[h1]at hgq
   injection hgq with hgq
   have:=h.fC HP g hq;omega
end
section
variable {W0 w0 : World} {E : Nat -> Addr} {P : MP} {α : Type} {jt : Nat -> TypeId} {ja : Nat -> Addr} {At : World -> List Nat -> α -> Prop} {can : α -> Nat -> Prop} {left : α -> Nat -> Nat} {Stp : α -> Nat -> α -> Prop}
theorem step_done (HP:jk W0 E P jt ja At can left Stp)(s:SP)(F0 F:List Nat)(b:Int)(ids:List Nat)(a:α)(x:bS)(id:Nat)(hc:can a id)(h0:left a id=0)(w:World)(h:bH W0 E P At s w0 F0 w b ids a F x):
  Calls Tryz.prog 173 #[fD s.sb,nX P,.iface (jt id) (.pointer (some (ja id)))] w λe w'=>e= .returned (.bool false)/\Below w.heap.size w w':=by
 have:=HP.xY h.pool hc;rw[h0]at this;exact JE s.sb (jt id) (ja id) (nX P) w (HP.P5 hc) this
theorem Vd (HP:jk W0 E P jt ja At can left Stp)(s:SP)(F0 F:List Nat)(ids:List Nat)(a:α)(x:bS)(id:Nat)(hc:can a id)(h1:1<=left a id)(w:World)(h:bH W0 E P At s w0 F0 w 0 ids a F x):
  Calls Tryz.prog 173 #[fD s.sb,nX P,.iface (jt id) (.pointer (some (ja id)))] w λe w'=>e= .returned (.bool false)/\Below w.heap.size w w':=by
 obtain⟨sp,hs⟩:=h.aF.blk;exact Hr s.sb s.qb s.jb s.k sp (left a id) h1 (jt id) (ja id) (nX P) w (HP.P5 hc) (HP.xY h.pool hc) hs
theorem P6 (HP:jk W0 E P jt ja At can left Stp)(s:SP)(F0 F:List Nat)(b:Nat)(hb:b<=999)(ids:List Nat)(a:α)(x:bS)(id:Nat)(hc:can a id)(h1:1<=left a id)(w:World)(h:bH W0 E P At s w0 F0 w ((b+1:Nat):Int) ids a F x):
  Calls Tryz.prog 173 #[fD s.sb,nX P,.iface (jt id) (.pointer (some (ja id)))] w λe w'=>e= .returned (.bool true)/\∃a' F' x',Stp a id a'/\dU x x' 0 1/\bH W0 E P At s w0 F0 w' (b:Int) ids a' F' x'/\(∀q∈F',q∈F\/w.heap.size<=q)/\Mod (P.mb::(s.blocks++F)) w w':=by
 obtain⟨sp,hs⟩:=h.aF.blk;refine(Va s.sb s.qb s.jb s.k sp b (left a id) h1 hb (jt id) (ja id) (nX P) (λV V'=>∃a' F' x',Stp a id a'/\At V' F' a'/\(∀q∈F',q∈F\/V.heap.size<=q)/\aN V' P x'/\dU x x' 0 1/\Mod (P.mb::F) V V') w (HP.P5 hc) (HP.xY h.pool hc) hs ?_).mono ?_
 ·intro V hm hsV;have hV:=h.own HP hm (by simp[SP.blocks]) (h.aF.bal hm hsV);exact HP.aci hV.pool hc h1 hV.env hV.met
 ·rintro e w' ⟨rfl,V,hm,hsV,a',F',x',h2,h3,h4,h5,h6,h7⟩;have hV:=h.own HP hm (by simp[SP.blocks]) (h.aF.bal hm hsV)
  exact⟨rfl,a',F',x',h2,h6,hV.stepped HP h3 h4 h5 h7,λq hq=>(h4 q hq).imp (λhh=>hh) (λhh=>qf hm.size hh),hm.trans h7 (λq hq _=>by simp at hq;simp[hq,SP.blocks]) (λq hq _=>by
   rcases zt.1 hq with h8|h8
   ·simp[h8]
   ·simp[h8])⟩
theorem Ct (HP:jk W0 E P jt ja At can left Stp)(s:SP)(F0 F:List Nat)(b:Int)(ids:List Nat)(a:α)(x:bS)(id:Nat)(hid:id∈ids)(mH:id<=1000)(w:World)(h:bH W0 E P At s w0 F0 w b ids a F x):
  Calls Tryz.prog 177 #[fD s.sb,nI id] w λe w'=>e= .returned (.bool true)/\bH W0 E P At s w0 F0 w' b (ids.erase id) a F x/\Mod s.blocks w w':=
 (PZ s.sb s.qb s.rb s.jb s.k b s.val ids id hid mH w h.aF).mono λe w' ⟨h1,h2,h3⟩=>⟨h1,h.own HP h3 (by simp[SP.blocks]) h2,h3.more (by simp[SP.blocks])⟩
theorem Cu (HP:jk W0 E P jt ja At can left Stp)(s:SP)(F0 F:List Nat)(b n:Int)(hn:0<=n/\n<=1000)(ids:List Nat)(a:α)(x:bS)(w:World)(h:bH W0 E P At s w0 F0 w b ids a F x):
  Calls Tryz.prog 171 #[fD s.sb,.int .i64 n] w λe w'=>e= .returned undef/\bH W0 E P At s w0 F0 w' n ids a F x:=by
 obtain⟨sp,hs⟩:=h.aF.blk;exact(U9 s.sb s.qb s.jb s.k b sp n hn w hs).mono λe w' ⟨h1,h2,h3⟩=>⟨h1,h.own HP h3 (by simp[SP.blocks]) (h.aF.bal h3 h2)⟩
end
inductive tY {α:Type}(left:α->Nat->Nat)(Stp:α->Nat->α->Prop):Nat->List Nat->α->List Nat->List Nat->α->Prop
 |nil (c:Nat) (a:α):tY left Stp c [] a [] [] a
 |broke (ids:List Nat) (a:α):tY left Stp 0 ids a [] ids a
 |ended {c id:Nat} {ids e aL:List Nat} {a a':α} (h:left a id=0) (r:tY left Stp (c+1) ids a e aL a'):tY left Stp (c+1) (id::ids) a (id::e) aL a'
 |step {c id:Nat} {ids e aL:List Nat} {a b a':α} (h:1<=left a id) (hs:Stp a id b) (r:tY left Stp c (id::ids) b e aL a'):tY left Stp (c+1) (id::ids) a e aL a'
end
