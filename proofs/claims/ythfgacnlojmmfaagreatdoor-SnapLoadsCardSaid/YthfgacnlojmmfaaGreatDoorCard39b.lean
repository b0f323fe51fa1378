/- SnapLoads: the law's row and its tied card. -/
import Derived.Test.YthfgacnlojmmfaaGreatDoorLaid2
import Derived.Deep.Strs
import Derived.OpenShut
import Derived.Carry
import Derived.Test.YthfgacnlojmmfaaGreatDoorCards
import Derived.Test.YthfgacnlojmmfaaGreatDoorTie
import Derived.Lay
namespace Go.Proofs.YthfgacnlojmmfaaGreatDoor.p39b
set_option maxRecDepth 100000
set_option maxHeartbeats 40000000
open Go.ChangeShapes Go.WideShapes Go.ChangeAt Go.RowKit Go.Deep AmC AmL
variable {cs : List Value} {p : List MemPlace} {W : World} {v : Value}
def db64:List Int:=[0,1,56,2,57,49,28,3,61,58,42,50,38,29,17,4,62,47,59,36,45,43,51,22,53,39,33,30,24,18,12,5,63,55,48,27,60,41,37,16,46,35,44,21,52,32,23,11,54,26,40,15,34,20,31,10,25,14,19,9,13,8,7,6]
theorem own:ownKnob Tryz.prog.godebug=none:=by kernel_rfl
theorem laidOut:laidOutB Tryz.prog=true:=by kernel_rfl
def mixBs:List (List UInt8):=[[115,97,109,101],[111,110,101],[109,117,108,116],[102,110,118],[116,117,114,110],[116,111,112]]
section
variable {H : Type} {enc : TypeId × Value → H} {P : Program} {w : World} {base : Nat} {spare : Nat → Bool} {held : Bool} {fuel : Nat}
theorem strs_cells {n:Nat}{t e:TypeId}(ht:P.underlying t=some (.array n e))(he:P.underlying e=some .string)(hc:P.cellsOf e=1){l:List (List UInt8)}(h:DataW.trod enc P w base spare held fuel t cs=some (.agg (l.map fun b=>DataW.lit (Lit.string b)),p)):∀(i:Nat) (b:List UInt8),l[i]?=some b→cs[i]?=some (Value.string ⟨b.toArray⟩):=by
 obtain⟨xs,m,rfl,hx,hl,hxs,hf⟩:=DataW.trod_array ht h;intro i b hb
 have hx1:xs.map (·.1)=l.map fun b=>(DataW.lit (Lit.string b):DataW H):=by
  have:=congrArg Prod.fst hx;simp only at this
  injection this with this
  exact this.symm
 have hlen:xs.length=l.length:=by have:=congrArg List.length hx1;simpa using this
 have hi:i<l.length:=(List.getElem?_eq_some_iff.1 hb).1;have h1:=hf i (by omega);rw[hc,Nat.mul_one,List.getElem?_eq_getElem (by omega)]at h1;obtain⟨s,hs1,hs2,_⟩:=DataW.trod_string he h1
 have h2:(xs.map (·.1))[i]?=some (DataW.lit (Lit.string b)):=by rw[hx1,List.getElem?_map,hb];rfl
 rw[List.getElem?_map,List.getElem?_eq_getElem (by omega),hs2]at h2;simp only[Option.map_some,Option.some.injEq]at h2
 injection h2 with h2
 injection h2 with h2
 have h3:=congrArg (·[0]?) hs1;simp only[List.getElem?_take,List.getElem?_drop,List.getElem?_cons_zero]at h3;rw[if_pos (by omega),Nat.add_zero]at h3;rw[h3,←h2]
end
theorem mixwords_at {l:List (String×DataW Unit)}(h:laidMet Tryz.prog l W)(p:Nat)(hl:l[p]?=some ("ambler/mix.words",.agg (mixBs.map fun b=>DataW.lit (Lit.string b)))):
  ∀i,i<6→W.cell? ⟨16,i,none⟩=some (.string ⟨(mixBs.getD i []).toArray⟩):=by
 obtain⟨ps,hv,hnd,hrows⟩:=h;obtain⟨pl,e1,e2,e3⟩:=laid_parts l ps hv;obtain⟨g',t,cs,fuel,p',h1,h2,h3,h4,h5⟩:=e3 _ _ _ hl
 obtain rfl:=Option.some.inj ((show Tryz.prog.globalNamed "ambler/mix.words" =some 16 by kernel_rfl).symm.trans h1)
 obtain rfl:=Option.some.inj ((show(Tryz.prog.globals[16]?).map (·.type)=some 119 by kernel_rfl).symm.trans h2);intro i hi
 have hb:mixBs[i]?=some (mixBs.getD i []):=by
  have h6:mixBs.length=6:=rfl
  have:i<mixBs.length:=by omega
  simp[List.getElem?_eq_getElem this,List.getD_eq_getElem?_getD]
 have:=strs_cells Tryz.underlying119 Tryz.underlying9 (by kernel_rfl) h4 i _ hb;rw[World.var?_cell h1 h3 i];simpa using this
theorem mixwords_laid (h:laidMet Tryz.prog Rows.snapLoadsRow.laid W):MixWords W:=fun k hk=>by
 refine⟨_,mixwords_at h 19 rfl k (by omega), ?_⟩
 match k,hk with
 |0,_=>rw[ByteArray.toList_eq];rfl
 |1,_=>rw[ByteArray.toList_eq];rfl
 |2,_=>rw[ByteArray.toList_eq];rfl
 |3,_=>rw[ByteArray.toList_eq];rfl
 |4,_=>rw[ByteArray.toList_eq];rfl
 |5,_=>rw[ByteArray.toList_eq];rfl
section
variable {H : Type} {enc : TypeId × Value → H} {w : World} {base : Nat} {spare : Nat → Bool} {held : Bool} {fuel : Nat}
theorem pair_trod {x:DataW H×List MemPlace}(h:DataW.trod enc Tryz.prog w base spare held fuel 35 cs=some x):∃p:Nat×Nat,cs=pairC p∧p.1<18446744073709551616∧p.2<18446744073709551616:=by
 obtain⟨xs,m,rfl,rfl,hl,hxs,hf⟩:=DataW.trod_struct Tryz.underlying35 h
 have hc1:Tryz.prog.cellsOf 33 =1:=by kernel_rfl
 have hc2:Tryz.prog.cellsOf 35 =2:=by kernel_rfl
 rw[hc2]at hl;have hx2:xs.length=2:=hxs;have f0:DataW.trod enc Tryz.prog w base spare held m 33 ((cs.drop 0).take (Tryz.prog.cellsOf 33))=xs[0]?:=hf 0 _ rfl;have f1:DataW.trod enc Tryz.prog w base spare held m 33 ((cs.drop 1).take (Tryz.prog.cellsOf 33))=xs[1]?:=hf 1 _ rfl;rw[hc1]at f0 f1;rw[List.getElem?_eq_getElem (by omega)]at f0 f1;obtain⟨n0,q0,_,w0⟩:=DataW.trod_int Tryz.underlying33 f0;obtain⟨n1,q1,_,w1⟩:=DataW.trod_int Tryz.underlying33 f1;have b0:=Go.bounds_u64 w0;have b1:=Go.bounds_u64 w1;refine⟨(n0.toNat,n1.toNat), ?_,by show n0.toNat<_;omega,by show n1.toNat<_;omega⟩
 match cs,hl with
 | [a,b],_=>
  simp at q0 q1;simp only[pairC];rw[q0,q1,show((n0.toNat:Nat):Int)=n0 by omega,show((n1.toNat:Nat):Int)=n1 by omega]
theorem open_pairs {d:DataW H}(ho:Value.okWide Tryz.prog w .any base 24 v)(h:DataW.Trod enc Tryz.prog w 0 (fun _=>true) true 24 v d p):
  ∃(A:Option Addr) (n c:Nat) (l:List (Nat×Nat)),v= .slice A n c∧n=l.length∧Reads w w.heap.size 2 A l.length (l.flatMap pairC)∧∀p∈l,p.1<18446744073709551616∧p.2<18446744073709551616:=by
 obtain⟨a0,len0,cap0,rfl⟩:=okWide_slice Tryz.underlying24 ho;obtain⟨fuel,hf⟩:=h
 have hc2:Tryz.prog.cellsOf 35 =2:=by kernel_rfl
 rcases open_slice Tryz.underlying24 hf with⟨hcs,_⟩|⟨a,len,cap,m,k,D,Pl,hcs,_,hl,_,hm,_,hx⟩
 ·simp[Value.cells]at hcs;obtain⟨rfl,rfl,rfl⟩:=hcs;exact⟨none,0,0,[],rfl,rfl,Reads.none_,fun _ h=>absurd h List.not_mem_nil⟩
 ·simp[Value.cells]at hcs;obtain⟨rfl,rfl,rfl⟩:=hcs;simp only[if_true]at hm;rw[hc2]at hx
  obtain⟨O,hO⟩:=choose_lt (α:=Nat×Nat) (n:=len0) (p:=fun i o=>(o.1<18446744073709551616∧o.2<18446744073709551616)∧∀j,j<2→w.cell? ((a.add (i*2)).add j)=(pairC o)[j]?) (fun i hi=>by
   obtain⟨cs',h1,h2⟩:=hx i (by omega);obtain⟨_,_,hcell⟩:=World.cells?_some h1;obtain⟨p,rfl,hp⟩:=pair_trod h2
   exact⟨p,hp,hcell⟩)
  refine⟨some a,len0,cap0,(List.range len0).map O,rfl,by simp,⟨by rw[pairC_length],fun hn=> ?_⟩,fun p hp=> ?_⟩
  ·rw[List.length_map,List.length_range]at hn;obtain⟨b,off,spot⟩:=a;have h00:=(hO 0 (by omega)).2 0 (by omega)
   have hspot:spot=none:=by simpa[Addr.add]using World.cell?_spot (h00.trans rfl)
   subst hspot;refine⟨b,off,rfl,by simpa[Addr.add]using World.block_lt_of_cell? w _ (h00.trans rfl),fun j u hu=> ?_⟩
   have hj:j<len0*2:=by have:=(List.getElem?_eq_some_iff.1 hu).1;rw[pairC_length]at this;simpa using this
   have h1:=(hO (j/2) (by omega)).2 (j % 2) (by omega);have h2:=pairC_at (q:=j % 2) (l:=(List.range len0).map O) (i:=j/2) (p:=O (j/2)) (by rw[List.getElem?_map,List.getElem?_range (by omega)];rfl) (by omega);rw[show j/2*2+j % 2=j by omega,hu]at h2;rw[add_plain,add_plain,show off+j/2*2+j % 2=off+j by omega]at h1;rw[h1,h2]
   have h3:j % 2=0∨j % 2=1:=by omega
   rcases h3 with e|e<;>rw[e]<;>rfl
  ·obtain⟨i,hi,rfl⟩:=List.mem_map.1 hp;exact(hO i (by simpa using hi)).1
theorem cfg_trod {x:DataW H×List MemPlace}(h:DataW.trod enc Tryz.prog w base spare held fuel 23 cs=some x):∃a b c:Int,cs=[.int .i64 a,.int .i64 b,.int .i64 c]:=by
 obtain⟨xs,m,rfl,rfl,hl,hxs,hf⟩:=DataW.trod_struct Tryz.underlying23 h
 have hc1:Tryz.prog.cellsOf 3 =1:=by kernel_rfl
 have hc3:Tryz.prog.cellsOf 23 =3:=by kernel_rfl
 rw[hc3]at hl;have hx3:xs.length=3:=hxs;have f0:DataW.trod enc Tryz.prog w base spare held m 3 ((cs.drop 0).take (Tryz.prog.cellsOf 3))=xs[0]?:=hf 0 _ rfl;have f1:DataW.trod enc Tryz.prog w base spare held m 3 ((cs.drop 1).take (Tryz.prog.cellsOf 3))=xs[1]?:=hf 1 _ rfl;have f2:DataW.trod enc Tryz.prog w base spare held m 3 ((cs.drop 2).take (Tryz.prog.cellsOf 3))=xs[2]?:=hf 2 _ rfl;rw[hc1]at f0 f1 f2;rw[List.getElem?_eq_getElem (by omega)]at f0 f1 f2;obtain⟨n0,q0,_,w0⟩:=DataW.trod_int Tryz.underlying3 f0;obtain⟨n1,q1,_,w1⟩:=DataW.trod_int Tryz.underlying3 f1;obtain⟨n2,q2,_,w2⟩:=DataW.trod_int Tryz.underlying3 f2;refine⟨n0,n1,n2, ?_⟩
 match cs,hl with
 | [a,b,c],_=>
  simp at q0 q1 q2;simp[q0,q1,q2]
theorem open_cfg {r:Reach}{b0:Nat}{d:DataW H}(hv:Value.okWide Tryz.prog w r b0 23 v)(h:DataW.Trod enc Tryz.prog w base spare held 23 v d p):∃k m i:Int,v= .agg #[.int .i64 k,.int .i64 m,.int .i64 i]:=by
 obtain⟨cs,rfl,hsz⟩:=okWide_struct Tryz.underlying23 hv;obtain⟨fuel,hf⟩:=h;obtain⟨a,b,c,hc⟩:=cfg_trod (cs:=cs.toList) hf;refine⟨a,b,c, ?_⟩;congr 1;apply Array.toList_inj.1;rw[hc]
end
theorem posE:∀k,k<16→∃n text,Rows.snapLoadsRow.laid[3+k]?=some (n,errD text)∧Tryz.prog.globalNamed n=some (gE (k+1))∧(Tryz.prog.globals[gE (k+1)]?).map (·.type)=some 28
 |0,_=>⟨_,_,rfl,by kernel_rfl,by kernel_rfl⟩|1,_=>⟨_,_,rfl,by kernel_rfl,by kernel_rfl⟩|2,_=>⟨_,_,rfl,by kernel_rfl,by kernel_rfl⟩|3,_=>⟨_,_,rfl,by kernel_rfl,by kernel_rfl⟩|4,_=>⟨_,_,rfl,by kernel_rfl,by kernel_rfl⟩|5,_=>⟨_,_,rfl,by kernel_rfl,by kernel_rfl⟩|6,_=>⟨_,_,rfl,by kernel_rfl,by kernel_rfl⟩|7,_=>⟨_,_,rfl,by kernel_rfl,by kernel_rfl⟩|8,_=>⟨_,_,rfl,by kernel_rfl,by kernel_rfl⟩|9,_=>⟨_,_,rfl,by kernel_rfl,by kernel_rfl⟩|10,_=>⟨_,_,rfl,by kernel_rfl,by kernel_rfl⟩|11,_=>⟨_,_,rfl,by kernel_rfl,by kernel_rfl⟩|12,_=>⟨_,_,rfl,by kernel_rfl,by kernel_rfl⟩|13,_=>⟨_,_,rfl,by kernel_rfl,by kernel_rfl⟩|14,_=>⟨_,_,rfl,by kernel_rfl,by kernel_rfl⟩|15,_=>⟨_,_,rfl,by kernel_rfl,by kernel_rfl⟩
 |_+16,h=>absurd h (by omega)
theorem lib_in (h:laidMet Tryz.prog Rows.snapLoadsRow.laid W):∃E,Env W E W∧ErrsIn E W∧MixWords W∧W.cell? ⟨18,15,none⟩=some (.int .u8 4):=by
 obtain⟨E,hE⟩:=errsIn_of_laid h 3 posE;have hd1:=laid_drop 1 _ h;have ht:=Lib.tabIs_of_head (P:=Tryz.prog) (g:=18) (t:=339) (e:=5) (n:=64) (zs:=db64) (by kernel_rfl) (by kernel_rfl) (by kernel_rfl) Tryz.underlying5 (by kernel_rfl) (by kernel_rfl) hd1;refine⟨E,⟨Below.refl _ _,hE.core,fun i hi=> ?_⟩,hE,mixwords_laid h,ht.cell (by kernel_rfl) _ (by decide)⟩
 ·match i,hi with
  |0,_=>exact ht.cell (by kernel_rfl) _ (by decide)
  |1,_=>exact ht.cell (by kernel_rfl) _ (by decide)
  |2,_=>exact ht.cell (by kernel_rfl) _ (by decide)
  |3,_=>exact ht.cell (by kernel_rfl) _ (by decide)
  |4,_=>exact ht.cell (by kernel_rfl) _ (by decide)
  |5,_=>exact ht.cell (by kernel_rfl) _ (by decide)
  |6,_=>exact ht.cell (by kernel_rfl) _ (by decide)
  |7,_=>exact ht.cell (by kernel_rfl) _ (by decide)
theorem contract (H:Type)(enc:TypeId×Value→H)(W:World)(base:Nat)(args:Array Value)(ds gs:List (DataW H))(before:List MemPlace)(hval:∀(j:Nat) t v,Tryz.f3.params[j]?=some t→args[j]?=some v→Value.okWide Tryz.prog W .any base t v)(hW:DataW.Whole enc Tryz.prog Tryz.f3.params.toList Rows.snapLoadsSpec.vars false W args.toList ds gs before)(hL:laidMetH Tryz.prog Rows.snapLoadsRow.laid W):
  Calls Tryz.prog 3 args W fun e W'=>∃v,e= .returned v∧Rows.snapLoadsSpec.post enc Tryz.prog Tryz.f3 false true false false W args v W':=by
 have hW':=hW;obtain⟨p,q,hA0,hV,rfl,hfz,hnd⟩:=hW;have hA:DataW.TrodAll enc Tryz.prog W 0 (fun _=>true) true Tryz.f3.params.toList args.toList ds p:=hA0;rw[Tryz.params3]at hA hval;obtain⟨v0,vs0,d0,ds0,p0,q0,hargs,rfl,rfl,h0,r0⟩:=trodAll_cons hA;obtain⟨v1,vs1,d1,ds1,p1,q1,hargs1,rfl,rfl,h1,r1⟩:=trodAll_cons r0;obtain⟨v2,vs2,d2,ds2,p2,q2,hargs2,rfl,rfl,h2,r2⟩:=trodAll_cons r1;obtain⟨rfl,rfl,rfl⟩:=trodAll_nil r2
 obtain rfl:args= #[v0,v1,v2]:=by cases args;simp_all
 obtain⟨rfl,rfl⟩:=trodVars_none hV;have h0k:=h0;have h1k:=h1;have h2k:=h2;obtain⟨k0,m0,i0,rfl⟩:=open_cfg (hval 0 23 v0 rfl rfl) h0;obtain⟨A,n,c,l,rfl,rfl,hR,h64⟩:=open_pairs (hval 1 24 v1 rfl rfl) h1;obtain⟨n2,hv2,_⟩:=open_int Tryz.underlying3 (hval 2 3 v2 rfl rfl) h2;subst hv2;clear hA0;simp only[List.append_nil]at hW';obtain⟨E,hE,hEr,hW6,hT⟩:=lib_in hL;have hlt:∀x∈p0++(p1++p2),x.block<W.heap.size:=fun x hx=>hW'.lt x hx;refine(law_loads (c0:=c) k0 m0 i0 n2 hR h64 hE hEr hW6 hT).mono fun e W' ⟨he,hb⟩=> ?_;subst he
 exact⟨_,rfl,post_of_below (pa:=p0++(p1++p2)) (pv:=[]) hW' (fun _ _ _=>trodAll_cons_mk (shut_bool Tryz.underlying4 _) trodAll_mk0)
  (fun sp hsp=>by
   have:=trodAll_cons_mk (WideElems.Trod_stays (sp':=sp) laidOut (by kernel_rfl) (of_decide_eq_true (by kernel_rfl)) h0k (fun x hx=>hb.same (hlt x (by simp[hx]))) (fun x hx=>hsp x (by simp[hx])))
    (trodAll_cons_mk (WideElems.Trod_stays (sp':=sp) laidOut (by kernel_rfl) (of_decide_eq_true (by kernel_rfl)) h1k (fun x hx=>hb.same (hlt x (by simp[hx]))) (fun x hx=>hsp x (by simp[hx])))
    (trodAll_cons_mk (WideElems.Trod_stays (sp':=sp) laidOut (by kernel_rfl) (of_decide_eq_true (by kernel_rfl)) h2k (fun x hx=>hb.same (hlt x (by simp[hx]))) (fun x hx=>hsp x (by simp[hx]))) trodAll_mk0))
   simp only[List.append_nil]at this
   exact this)
  (fun _ _=>rfl) (by simp)
  hb (ok_one (by kernel_rfl) rfl (okWide_bool_mk Tryz.underlying4 _))⟩
theorem lifted (os:Os)(started:os.Started)(H:Type)(enc:TypeId×Value→H):
  ReturnsInHanded {} Tryz.checked os 3 .any (fun w args=>(Rows.snapLoadsSpec.pre enc Tryz.prog Tryz.f3 [] false w args∧laidMetH Tryz.prog Rows.snapLoadsRow.laid w)∧sizedMet enc Tryz.prog Tryz.f3 (OpenSpec.ofChange Rows.snapLoadsSpec) false w args)
   (Rows.snapLoadsSpec.post enc Tryz.prog Tryz.f3 false true false false):=by
 refine returnsLaid (C:=Tryz.checked) (X:=fun w _=>laidMetH Tryz.prog Rows.snapLoadsRow.laid w) (fun _ _ _ hh h=>h.of_heap hh) own started (by kernel_rfl) Tryz.func3
  (ChangeSpec.witness_shaped (enc:=enc) (C:=Tryz.checked) (os:=os) (X:=fun w _=>laidMetH Tryz.prog Rows.snapLoadsRow.laid w) false (World.laidAll Tryz.prog os Rows.snapLoadsRow.laid) #[.agg #[.int .i64 1,.int .i64 1,.int .i64 1],.slice none 0 0,.int .i64 0] 8 (World.laidAll_os _ _ _)
   (World.shaped_of_ZipB (by kernel_rfl) (by kernel_rfl)) (by kernel_rfl) (by kernel_rfl) (by kernel_rfl)
   (by rw[MakeChecks.laidMetH_plain _ _ _ (by kernel_rfl)];exact laidMet_laidAll _ (by kernel_rfl) (by kernel_rfl))) ?_
 intro W base args ds gs before hval hW _ hL _;exact contract H enc W base args ds gs before hval hW hL
theorem closed:joinedFacts Tryz.pinned.checked.prog 3 Tryz.f3 Rows.snapLoadsSpec Rows.snapLoadsRow=true:=by
 unfold joinedFacts;simp only[Bool.and_eq_true]
 repeat' apply And.intro
 all_goals (as_aux_lemma=>kernel_rfl)
theorem said:Rows.SnapLoadsSaid:=
 OpenClaim.holds_of_wide 3 Tryz.f3 rfl rfl rfl rfl rfl rfl rfl ⟨rfl,rfl,rfl,rfl,rfl⟩ rfl rfl rfl rfl rfl (by kernel_rfl) Tryz.func3 closed
  (of_decide_eq_true (by kernel_rfl)) (by unfold Func.isWrapper;first|(rw[if_pos (by decide+kernel)];kernel_rfl)|(rw[if_neg (by decide+kernel)];exact⟨rfl,rfl⟩))
  (fun os started H enc _=>lifted os started H enc)
theorem plain (f:FuncId)(fn:Func)(hf:Tryz.pinned.checked.prog.funcNamed "ambler/amblerlaw39.SnapLoads" =some f)(hfn:Tryz.pinned.checked.prog.funcs[f]?=some fn):
  true=Tryz.pinned.checked.prog.looks []∧∀(j:Nat) t,fn.params[j]?=some t→Tryz.pinned.checked.prog.wantsStandIn t=false:=by
 obtain rfl:f=3 :=Option.some.inj ((show Tryz.prog.funcNamed "ambler/amblerlaw39.SnapLoads" =some 3 by kernel_rfl).symm.trans hf)|>.symm
 obtain rfl:fn=Tryz.f3 :=(Option.some.inj (Tryz.func3.symm.trans hfn)).symm;refine⟨by kernel_rfl,fun j t ht=> ?_⟩;rw[Tryz.params3]at ht;have h:=Array.mem_of_getElem? ht;simp only[List.mem_toArray,List.mem_cons,List.not_mem_nil,or_false]at h;rcases h with rfl|rfl|rfl
 ·exact(show Tryz.prog.wantsStandIn 23 =false by kernel_rfl)
 ·exact(show Tryz.prog.wantsStandIn 24 =false by kernel_rfl)
 ·exact(show Tryz.prog.wantsStandIn 3 =false by kernel_rfl)
theorem card:Rows.SnapLoadsCardSaid:=
 Claim7.holds_tied_plain_at .later [] _ _ _ _ said (fun _ h=>by cases h) (by kernel_rfl) (fun _ h=>by cases h) snapLoads_row_tie rfl ⟨rfl,rfl⟩ (by kernel_rfl) rfl plain (by kernel_rfl)
#print axioms card
end Go.Proofs.YthfgacnlojmmfaaGreatDoor.p39b
