/- MergePlain: whatever the two lists of pairs and the policy, the law answers true, and it reads as it read. No condition but the row's own. -/
import Derived.Test.YtbfpfgfgfjhpfaaGreatDoorLaw44
import Derived.Test.YtbfpfgfgfjhpfaaGreatDoorLaid2
import Derived.Deep.Strs
import Derived.OpenShut
import Derived.Carry
namespace Go.Proofs.YtbfpfgfgfjhpfaaGreatDoor.p44
set_option maxRecDepth 100000
open Go.ChangeShapes Go.WideShapes Go.ChangeAt Go.RowKit Go.Deep dP zW
variable {cs : List Value} {p : List MemPlace} {W : World}
def ae4:List Int:=[0,1,56,2,57,49,28,3,61,58,42,50,38,29,17,4,62,47,59,36,45,43,51,22,53,39,33,30,24,18,12,5,63,55,48,27,60,41,37,16,46,35,44,21,52,32,23,11,54,26,40,15,34,20,31,10,25,14,19,9,13,8,7,6]
theorem own:ownKnob Tryz.prog.godebug=none:=by kernel_rfl
theorem laidOut:laidOutB Tryz.prog=true:=by kernel_rfl
def EX:List (List UInt8):=[[115,97,109,101],[111,110,101],[109,117,108,116],[102,110,118],[116,117,114,110],[116,111,112]]
section
variable {H : Type} {enc : TypeId × Value → H} {P : Program} {w : World} {base : Nat} {spare : Nat → Bool} {held : Bool} {fuel : Nat}
theorem Jq {n:Nat}{t e:TypeId}(ht:P.underlying t=some (.array n e))(he:P.underlying e=some .string)(hc:P.cellsOf e=1){l:List (List UInt8)}(h:DataW.trod enc P w base spare held fuel t cs=some (.agg (l.map fun b=>DataW.lit (Lit.string b)),p)):∀(i:Nat) (b:List UInt8),l[i]?=some b→cs[i]?=some (Value.string ⟨b.toArray⟩):=by
 obtain⟨xs,m,rfl,hx,hl,hxs,hf⟩:=DataW.trod_array ht h;intro i b hb
 have hx1:xs.map (·.1)=l.map fun b=>(DataW.lit (Lit.string b):DataW H):=by
  have:=congrArg Prod.fst hx;simp only at this
  injection this with this
  exact this.symm
 have hlen:xs.length=l.length:=by have:=congrArg List.length hx1;simpa using this
 have hi:i<l.length:=(List.getElem?_eq_some_iff.1 hb).1;have h1:=hf i (by omega);rw[hc,Nat.mul_one,List.getElem?_eq_getElem (by omega)]at h1;obtain⟨s,hs1,hs2,_⟩:=DataW.trod_string he h1
 have h2:(xs.map (·.1))[i]?=some (DataW.lit (Lit.string b)):=by rw[hx1,List.getElem?_map,hb];rfl
 rw[List.getElem?_map,List.getElem?_eq_getElem (by omega),hs2]at h2;simp only[Option.map_some,Option.some.injEq]at h2
 injection h2 with h2
 injection h2 with h2
 have h3:=congrArg (·[0]?) hs1;simp only[List.getElem?_take,List.getElem?_drop,List.getElem?_cons_zero]at h3;rw[if_pos (by omega),Nat.add_zero]at h3;rw[h3,←h2]
end
theorem QX {l:List (String×DataW Unit)}(h:laidMet Tryz.prog l W)(p:Nat)(hl:l[p]?=some ("ambler/mix.words",.agg (EX.map fun b=>DataW.lit (Lit.string b)))):
  ∀i,i<6→W.cell? ⟨6,i,none⟩=some (.string ⟨(EX.getD i []).toArray⟩):=by
 obtain⟨ps,hv,hnd,hrows⟩:=h;obtain⟨pl,e1,e2,e3⟩:=xA l ps hv;obtain⟨g',t,cs,fuel,p',h1,h2,h3,h4,h5⟩:=e3 _ _ _ hl
 obtain rfl:=Option.some.inj ((show Tryz.prog.globalNamed "ambler/mix.words" =some 6 by kernel_rfl).symm.trans h1)
 obtain rfl:=Option.some.inj ((show(Tryz.prog.globals[6]?).map (·.type)=some 119 by kernel_rfl).symm.trans h2);intro i hi
 have hb:EX[i]?=some (EX.getD i []):=by
  have h6:EX.length=6:=rfl
  have:i<EX.length:=by omega
  simp[List.getElem?_eq_getElem this,List.getD_eq_getElem?_getD]
 have:=Jq Tryz.underlying119 Tryz.underlying9 (by kernel_rfl) h4 i _ hb;rw[World.var?_cell h1 h3 i];simpa using this
theorem MV (h:laidMet Tryz.prog Rows.mergePlainRow.laid W):kT W:=fun k hk=>by
 refine⟨_,QX h 13 rfl k (by omega), ?_⟩
 match k,hk with
 |0,_=>rw[ByteArray.toList_eq];rfl
 |1,_=>rw[ByteArray.toList_eq];rfl
 |2,_=>rw[ByteArray.toList_eq];rfl
 |3,_=>rw[ByteArray.toList_eq];rfl
 |4,_=>rw[ByteArray.toList_eq];rfl
 |5,_=>rw[ByteArray.toList_eq];rfl
theorem QY {l:List (String×DataW Unit)}(h:laidMet Tryz.prog l W)(p:Nat)(hl:l[p]?=some ("ambler/merge.words",.agg (oK.map fun b=>DataW.lit (Lit.string b)))):
  ∀i,i<7→W.cell? ⟨0,i,none⟩=some (.string ⟨(oK.getD i []).toArray⟩):=by
 obtain⟨ps,hv,hnd,hrows⟩:=h;obtain⟨pl,e1,e2,e3⟩:=xA l ps hv;obtain⟨g',t,cs,fuel,p',h1,h2,h3,h4,h5⟩:=e3 _ _ _ hl
 obtain rfl:=Option.some.inj ((show Tryz.prog.globalNamed "ambler/merge.words" =some 0 by kernel_rfl).symm.trans h1)
 obtain rfl:=Option.some.inj ((show(Tryz.prog.globals[0]?).map (·.type)=some 69 by kernel_rfl).symm.trans h2);intro i hi
 have hb:oK[i]?=some (oK.getD i []):=by
  have h7:oK.length=7:=rfl
  have:i<oK.length:=by omega
  simp[List.getElem?_eq_getElem this,List.getD_eq_getElem?_getD]
 have:=Jq Tryz.underlying69 Tryz.underlying9 (by kernel_rfl) h4 i _ hb;rw[World.var?_cell h1 h3 i];simpa using this
theorem MW (h:laidMet Tryz.prog Rows.mergePlainRow.laid W):mg W:=QY h 14 rfl
section
variable {H : Type} {enc : TypeId × Value → H} {w : World} {base : Nat} {spare : Nat → Bool} {held : Bool} {fuel : Nat}
theorem XY {x:DataW H×List MemPlace}(h:DataW.trod enc Tryz.prog w base spare held fuel 37 cs=some x):∃p:Nat×Nat,cs=aM p∧p.1<18446744073709551616∧p.2<18446744073709551616:=by
 obtain⟨xs,m,rfl,rfl,hl,hxs,hf⟩:=DataW.trod_struct Tryz.underlying37 h
 have hc1:Tryz.prog.cellsOf 35 =1:=by kernel_rfl
 have hc2:Tryz.prog.cellsOf 37 =2:=by kernel_rfl
 rw[hc2]at hl;have hx2:xs.length=2:=hxs;have f0:DataW.trod enc Tryz.prog w base spare held m 35 ((cs.drop 0).take (Tryz.prog.cellsOf 35))=xs[0]?:=hf 0 _ rfl;have f1:DataW.trod enc Tryz.prog w base spare held m 35 ((cs.drop 1).take (Tryz.prog.cellsOf 35))=xs[1]?:=hf 1 _ rfl;rw[hc1]at f0 f1;rw[List.getElem?_eq_getElem (by omega)]at f0 f1;obtain⟨n0,q0,_,w0⟩:=DataW.trod_int Tryz.underlying35 f0;obtain⟨n1,q1,_,w1⟩:=DataW.trod_int Tryz.underlying35 f1;have b0:=Go.bounds_u64 w0;have b1:=Go.bounds_u64 w1;refine⟨(n0.toNat,n1.toNat), ?_,by show n0.toNat<_;omega,by show n1.toNat<_;omega⟩
 match cs,hl with
 | [a,b],_=>
  simp at q0 q1;simp only[aM];rw[q0,q1,show((n0.toNat:Nat):Int)=n0 by omega,show((n1.toNat:Nat):Int)=n1 by omega]
theorem Jr {v:Value}{d:DataW H}(ho:Value.okWide Tryz.prog w .any base 22 v)(h:DataW.Trod enc Tryz.prog w 0 (fun _=>true) true 22 v d p):
  ∃(A:Option Addr) (n c:Nat) (l:List (Nat×Nat)),v= .slice A n c∧n=l.length∧Reads w w.heap.size 2 A l.length (l.flatMap aM)∧∀p∈l,p.1<18446744073709551616∧p.2<18446744073709551616:=by
 obtain⟨a0,Qg,cap0,rfl⟩:=okWide_slice Tryz.underlying22 ho;obtain⟨fuel,hf⟩:=h
 have hc2:Tryz.prog.cellsOf 37 =2:=by kernel_rfl
 rcases open_slice Tryz.underlying22 hf with⟨hcs,_⟩|⟨a,len,cap,m,k,D,Pl,hcs,_,hl,_,hm,_,hx⟩
 ·simp[Value.cells]at hcs;obtain⟨rfl,rfl,rfl⟩:=hcs;exact⟨none,0,0,[],rfl,rfl,Reads.none_,fun _ h=>absurd h List.not_mem_nil⟩
 ·simp[Value.cells]at hcs;obtain⟨rfl,rfl,rfl⟩:=hcs;simp only[if_true]at hm;rw[hc2]at hx
  obtain⟨O,hO⟩:=choose_lt (α:=Nat×Nat) (n:=Qg) (p:=fun i o=>(o.1<18446744073709551616∧o.2<18446744073709551616)∧∀j,j<2→w.cell? ((a.add (i*2)).add j)=(aM o)[j]?) (fun i hi=>by
   obtain⟨cs',h1,h2⟩:=hx i (by omega);obtain⟨_,_,hcell⟩:=World.cells?_some h1;obtain⟨p,rfl,hp⟩:=XY h2
   exact⟨p,hp,hcell⟩)
  refine⟨some a,Qg,cap0,(List.range Qg).map O,rfl,by simp,⟨by rw[fU],fun hn=> ?_⟩,fun p hp=> ?_⟩
  ·rw[List.length_map,List.length_range]at hn;obtain⟨b,off,spot⟩:=a;have h00:=(hO 0 (by omega)).2 0 (by omega)
   have hspot:spot=none:=by simpa[Addr.add]using World.cell?_spot (h00.trans rfl)
   subst hspot;refine⟨b,off,rfl,by simpa[Addr.add]using World.block_lt_of_cell? w _ (h00.trans rfl),fun j u hu=> ?_⟩
   have hj:j<Qg*2:=by have:=(List.getElem?_eq_some_iff.1 hu).1;rw[fU]at this;simpa using this
   have h1:=(hO (j/2) (by omega)).2 (j % 2) (by omega);have h2:=dS (q:=j % 2) (l:=(List.range Qg).map O) (i:=j/2) (p:=O (j/2)) (by rw[List.getElem?_map,List.getElem?_range (by omega)];rfl) (by omega);rw[show j/2*2+j % 2=j by omega,hu]at h2;rw[add_plain,add_plain,show off+j/2*2+j % 2=off+j by omega]at h1;rw[h1,h2]
   have h3:j % 2=0∨j % 2=1:=by omega
   rcases h3 with e|e<;>rw[e]<;>rfl
  ·obtain⟨i,hi,rfl⟩:=List.mem_map.1 hp;exact(hO i (by simpa using hi)).1
end
theorem adL (h:laidMet Tryz.prog Rows.mergePlainRow.laid W):∃E,Env W E W∧gN E W 6∧kT W∧mg W:=by
 obtain⟨a1,h1⟩:=Co (g:=8) h 1 rfl (by kernel_rfl) (by kernel_rfl);obtain⟨a2,h2⟩:=Co (g:=5) h 2 rfl (by kernel_rfl) (by kernel_rfl);obtain⟨a5,h5⟩:=Co (g:=3) h 5 rfl (by kernel_rfl) (by kernel_rfl);obtain⟨a6,h6⟩:=Co (g:=7) h 6 rfl (by kernel_rfl) (by kernel_rfl);have ht:=Lib.tabIs_of_head (P:=Tryz.prog) (g:=13) (t:=317) (e:=5) (n:=64) (zs:=ae4) (by kernel_rfl) (by kernel_rfl) (by kernel_rfl) Tryz.underlying5 (by kernel_rfl) (by kernel_rfl) h;refine⟨fun k=>if k=1 then a1 else if k=2 then a2 else if k=5 then a5 else a6,⟨Below.refl _ _,⟨fun k hk=> ?_⟩,fun i hi=> ?_⟩,h6,MV h,MW h⟩
 ·rcases hk with rfl|rfl|rfl
  ·exact h1
  ·exact h2
  ·exact h5
 ·match i,hi with
  |0,_=>exact ht.cell (by kernel_rfl) _ (by decide)
  |1,_=>exact ht.cell (by kernel_rfl) _ (by decide)
  |2,_=>exact ht.cell (by kernel_rfl) _ (by decide)
  |3,_=>exact ht.cell (by kernel_rfl) _ (by decide)
  |4,_=>exact ht.cell (by kernel_rfl) _ (by decide)
  |5,_=>exact ht.cell (by kernel_rfl) _ (by decide)
  |6,_=>exact ht.cell (by kernel_rfl) _ (by decide)
  |7,_=>exact ht.cell (by kernel_rfl) _ (by decide)
theorem contract (H:Type)(enc:TypeId×Value→H)(W:World)(base:Nat)(args:Array Value)(ds gs:List (DataW H))(before:List MemPlace)(hval:∀(j:Nat) t v,Tryz.f3.params[j]?=some t→args[j]?=some v→Value.okWide Tryz.prog W .any base t v)(hW:DataW.Whole enc Tryz.prog Tryz.f3.params.toList Rows.mergePlainSpec.vars false W args.toList ds gs before)(hL:laidMetH Tryz.prog Rows.mergePlainRow.laid W):
  Calls Tryz.prog 3 args W fun e W'=>∃v,e= .returned v∧Rows.mergePlainSpec.post enc Tryz.prog Tryz.f3 false true false false W args v W':=by
 have hW':=hW;obtain⟨p,q,hA0,hV,rfl,hfz,hnd⟩:=hW;have hA:DataW.TrodAll enc Tryz.prog W 0 (fun _=>true) true Tryz.f3.params.toList args.toList ds p:=hA0;rw[Tryz.params3]at hA hval;obtain⟨v0,vs0,d0,ds0,p0,q0,hargs,rfl,rfl,h0,r0⟩:=trodAll_cons hA;obtain⟨v1,vs1,d1,ds1,p1,q1,ae6,rfl,rfl,h1,r1⟩:=trodAll_cons r0;obtain⟨v2,vs2,d2,ds2,p2,q2,ae7,rfl,rfl,h2,r2⟩:=trodAll_cons r1;obtain⟨rfl,rfl,rfl⟩:=trodAll_nil r2
 obtain rfl:args= #[v0,v1,v2]:=by cases args;simp_all
 obtain⟨rfl,rfl⟩:=trodVars_none hV;have h0k:=h0;have h1k:=h1;have h2k:=h2;obtain⟨A,n,c,l,rfl,rfl,hR,h64⟩:=Jr (hval 0 22 v0 rfl rfl) h0;obtain⟨A',n',c',m,rfl,rfl,hR',OA⟩:=Jr (hval 1 22 v1 rfl rfl) h1;obtain⟨n2,hv2,_⟩:=open_int Tryz.underlying3 (hval 2 3 v2 rfl rfl) h2;subst hv2;clear hA0;simp only[List.append_nil]at hW';obtain⟨E,hE,h6,hW6,Ak⟩:=adL hL;have hlt:∀x∈p0++(p1++p2),x.block<W.heap.size:=fun x hx=>hW'.lt x hx;refine(XW (c:=c) (c':=c') n2 hR hR' ⟨fun q hq=>(h64 q hq).2,fun q hq=>(OA q hq).2⟩ hE hW6 Ak h6).mono fun e W' ⟨he,hb⟩=> ?_;subst he
 exact⟨_,rfl,MU (pa:=p0++(p1++p2)) (pv:=[]) hW' (fun _ _ _=>trodAll_cons_mk (shut_bool Tryz.underlying4 _) trodAll_mk0)
  (fun sp hsp=>by
   have:=trodAll_cons_mk (WideElems.Trod_stays (sp':=sp) laidOut (by kernel_rfl) (of_decide_eq_true (by kernel_rfl)) h0k (fun x hx=>hb.same (hlt x (by simp[hx]))) (fun x hx=>hsp x (by simp[hx])))
    (trodAll_cons_mk (WideElems.Trod_stays (sp':=sp) laidOut (by kernel_rfl) (of_decide_eq_true (by kernel_rfl)) h1k (fun x hx=>hb.same (hlt x (by simp[hx]))) (fun x hx=>hsp x (by simp[hx])))
    (trodAll_cons_mk (WideElems.Trod_stays (sp':=sp) laidOut (by kernel_rfl) (of_decide_eq_true (by kernel_rfl)) h2k (fun x hx=>hb.same (hlt x (by simp[hx]))) (fun x hx=>hsp x (by simp[hx]))) trodAll_mk0))
   simp only[List.append_nil]at this
   exact this)
  (fun _ _=>rfl) (by simp)
  hb (ok_one (by kernel_rfl) rfl (okWide_bool_mk Tryz.underlying4 _))⟩
end Go.Proofs.YtbfpfgfgfjhpfaaGreatDoor.p44
