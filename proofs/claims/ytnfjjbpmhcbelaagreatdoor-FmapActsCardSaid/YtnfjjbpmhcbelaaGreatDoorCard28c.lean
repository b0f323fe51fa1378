/- FmapActs: the law's row and its tied card. -/
import Derived.Test.YtnfjjbpmhcbelaaGreatDoorLaw28c
import Derived.Test.YtnfjjbpmhcbelaaGreatDoorLaid2
import Derived.Deep.Strs
import Derived.OpenShut
import Derived.Carry
import Derived.Test.YtnfjjbpmhcbelaaGreatDoorCards
import Derived.Test.YtnfjjbpmhcbelaaGreatDoorTie
import Derived.Lay
namespace Go.Proofs.YtnfjjbpmhcbelaaGreatDoor.p28c
set_option maxRecDepth 100000
set_option maxHeartbeats 40000000
open Go.ChangeShapes Go.WideShapes Go.ChangeAt Go.RowKit Go.Deep dI ru kM
variable {cs : List Value} {v : Value} {p : List MemPlace}
def aeF:List Int:=[0,1,56,2,57,49,28,3,61,58,42,50,38,29,17,4,62,47,59,36,45,43,51,22,53,39,33,30,24,18,12,5,63,55,48,27,60,41,37,16,46,35,44,21,52,32,23,11,54,26,40,15,34,20,31,10,25,14,19,9,13,8,7,6]
theorem own:ownKnob Tryz.prog.godebug=none:=by kernel_rfl
theorem laidOut:laidOutB Tryz.prog=true:=by kernel_rfl
theorem aeG:∀k,k<16→∃n text,Rows.fmapActsRow.laid[1+k]?=some (n,adt text)∧Tryz.prog.globalNamed n=some (gE (k+1))∧(Tryz.prog.globals[gE (k+1)]?).map (·.type)=some 28
 |0,_=>⟨_,_,rfl,by kernel_rfl,by kernel_rfl⟩|1,_=>⟨_,_,rfl,by kernel_rfl,by kernel_rfl⟩|2,_=>⟨_,_,rfl,by kernel_rfl,by kernel_rfl⟩|3,_=>⟨_,_,rfl,by kernel_rfl,by kernel_rfl⟩
 |4,_=>⟨_,_,rfl,by kernel_rfl,by kernel_rfl⟩|5,_=>⟨_,_,rfl,by kernel_rfl,by kernel_rfl⟩|6,_=>⟨_,_,rfl,by kernel_rfl,by kernel_rfl⟩|7,_=>⟨_,_,rfl,by kernel_rfl,by kernel_rfl⟩
 |8,_=>⟨_,_,rfl,by kernel_rfl,by kernel_rfl⟩|9,_=>⟨_,_,rfl,by kernel_rfl,by kernel_rfl⟩|10,_=>⟨_,_,rfl,by kernel_rfl,by kernel_rfl⟩|11,_=>⟨_,_,rfl,by kernel_rfl,by kernel_rfl⟩
 |12,_=>⟨_,_,rfl,by kernel_rfl,by kernel_rfl⟩|13,_=>⟨_,_,rfl,by kernel_rfl,by kernel_rfl⟩|14,_=>⟨_,_,rfl,by kernel_rfl,by kernel_rfl⟩|15,_=>⟨_,_,rfl,by kernel_rfl,by kernel_rfl⟩
 |k+16,h=>absurd h (by omega)
theorem adu {W:World}(h:laidMet Tryz.prog Rows.fmapActsRow.laid W):∃E,Env W E W∧eY E W:=by
 obtain⟨E,hE⟩:=JY h 1 aeG;have ht:=Lib.tabIs_of_head (P:=Tryz.prog) (g:=17) (t:=345) (e:=5) (n:=64) (zs:=aeF) (by kernel_rfl) (by kernel_rfl) (by kernel_rfl) Tryz.underlying5 (by kernel_rfl) (by kernel_rfl) h;refine⟨E,⟨Below.refl _ _,hE.core,fun i hi=> ?_⟩,hE⟩
 match i,hi with
 |0,_=>exact ht.cell (by kernel_rfl) _ (by decide)
 |1,_=>exact ht.cell (by kernel_rfl) _ (by decide)
 |2,_=>exact ht.cell (by kernel_rfl) _ (by decide)
 |3,_=>exact ht.cell (by kernel_rfl) _ (by decide)
 |4,_=>exact ht.cell (by kernel_rfl) _ (by decide)
 |5,_=>exact ht.cell (by kernel_rfl) _ (by decide)
 |6,_=>exact ht.cell (by kernel_rfl) _ (by decide)
 |7,_=>exact ht.cell (by kernel_rfl) _ (by decide)
section
variable {H : Type} {enc : TypeId × Value → H} {w : World} {base : Nat} {spare : Nat → Bool} {held : Bool} {fuel : Nat}
theorem Um {P:Program}{t:TypeId}{k:FloatKind}{x:DataW H×List MemPlace}(ht:P.underlying t=some (.float k))(h:DataW.trod enc P w base spare held fuel t cs=some x):∃b,cs=[.float k b]∧x=(.lit (.float k b),[])∧(Lit.float k b).wf=true:=by
 cases fuel with
 |zero=>simp[DataW.trod]at h
 |succ n=>
  unfold DataW.trod at h;rw[ht]at h
  split at h<;>simp_all
theorem Jd {x:DataW H×List MemPlace}(h:DataW.trod enc Tryz.prog w base spare held fuel 38 cs=some x):∃b,cs=[.float .f64 b]∧b<18446744073709551616:=by
 obtain⟨b,rfl,_,hw⟩:=Um Tryz.underlying38 h;refine⟨b,rfl, ?_⟩
 have:b<2^64:=by simpa[Lit.wf]using hw
 have e:(2:Nat)^64=18446744073709551616:=by decide
 rw[←e];exact this
theorem aal {x:DataW H×List MemPlace}(h:DataW.trod enc Tryz.prog w base spare held fuel 23 cs=some x):∃a b c:Int,cs=[.int .i64 a,.int .i64 b,.int .i64 c]:=by
 obtain⟨xs,m,rfl,rfl,hl,hxs,hf⟩:=DataW.trod_struct Tryz.underlying23 h
 have hc1:Tryz.prog.cellsOf 3 =1:=by kernel_rfl
 have hc3:Tryz.prog.cellsOf 23 =3:=by kernel_rfl
 rw[hc3]at hl;have hx3:xs.length=3:=hxs;have f0:DataW.trod enc Tryz.prog w base spare held m 3 ((cs.drop 0).take (Tryz.prog.cellsOf 3))=xs[0]?:=hf 0 _ rfl;have f1:DataW.trod enc Tryz.prog w base spare held m 3 ((cs.drop 1).take (Tryz.prog.cellsOf 3))=xs[1]?:=hf 1 _ rfl;have f2:DataW.trod enc Tryz.prog w base spare held m 3 ((cs.drop 2).take (Tryz.prog.cellsOf 3))=xs[2]?:=hf 2 _ rfl;rw[hc1]at f0 f1 f2;rw[List.getElem?_eq_getElem (by omega)]at f0 f1 f2;obtain⟨n0,q0,_,w0⟩:=DataW.trod_int Tryz.underlying3 f0;obtain⟨n1,q1,_,w1⟩:=DataW.trod_int Tryz.underlying3 f1;obtain⟨n2,q2,_,w2⟩:=DataW.trod_int Tryz.underlying3 f2;refine⟨n0,n1,n2, ?_⟩
 match cs,hl with
 | [a,b,c],_=>
  simp at q0 q1 q2;simp[q0,q1,q2]
theorem aam {r:Reach}{b0:Nat}{d:DataW H}(hv:Value.okWide Tryz.prog w r b0 23 v)(h:DataW.Trod enc Tryz.prog w base spare held 23 v d p):∃k m i:Int,v= .agg #[.int .i64 k,.int .i64 m,.int .i64 i]:=by
 obtain⟨cs,rfl,hsz⟩:=okWide_struct Tryz.underlying23 hv;obtain⟨fuel,hf⟩:=h;obtain⟨a,b,c,hc⟩:=aal (cs:=cs.toList) hf;refine⟨a,b,c, ?_⟩;congr 1;apply Array.toList_inj.1;rw[hc]
theorem aan {x:DataW H×List MemPlace}(h:DataW.trod enc Tryz.prog w base spare held fuel 40 cs=some x):∃a:ow,cs=a.cells∧a.f<18446744073709551616∧a.v<18446744073709551616:=by
 obtain⟨xs,m,rfl,rfl,hl,hxs,hf⟩:=DataW.trod_struct Tryz.underlying40 h
 have hc1:Tryz.prog.cellsOf 3 =1:=by kernel_rfl
 have hc3:Tryz.prog.cellsOf 38 =1:=by kernel_rfl
 rw[show Tryz.prog.cellsOf 40 =3 by kernel_rfl]at hl;have hx3:xs.length=3:=hxs;have f0:DataW.trod enc Tryz.prog w base spare held m 3 ((cs.drop 0).take (Tryz.prog.cellsOf 3))=xs[0]?:=hf 0 _ rfl;have f1:DataW.trod enc Tryz.prog w base spare held m 38 ((cs.drop 1).take (Tryz.prog.cellsOf 38))=xs[1]?:=hf 1 _ rfl;have f2:DataW.trod enc Tryz.prog w base spare held m 38 ((cs.drop 2).take (Tryz.prog.cellsOf 38))=xs[2]?:=hf 2 _ rfl;rw[hc1]at f0;rw[hc3]at f1 f2;rw[List.getElem?_eq_getElem (by omega)]at f0 f1 f2;obtain⟨n0,q0,_,_⟩:=DataW.trod_int Tryz.underlying3 f0;obtain⟨n1,q1,w1⟩:=Jd f1;obtain⟨n2,q2,w2⟩:=Jd f2;refine⟨⟨n0,n1,n2⟩, ?_,w1,w2⟩
 match cs,hl with
 | [a,b,c],_=>
  simp at q0 q1 q2;rw[q0,q1,q2];rfl
instance :Inhabited ow:=⟨⟨0,0,0⟩⟩
theorem XE {d:DataW H}(ho:Value.okWide Tryz.prog w .any base 24 v)(h:DataW.Trod enc Tryz.prog w 0 (fun _=>true) true 24 v d p):
  ∃(A:Option Addr) (c:Nat) (l:List ow),v= .slice A l.length c∧Reads w w.heap.size 3 A l.length (l.flatMap ow.cells)∧∀a∈l,a.f<18446744073709551616∧a.v<18446744073709551616:=by
 obtain⟨a0,Un,cap0,rfl⟩:=okWide_slice Tryz.underlying24 ho;obtain⟨fuel,hf⟩:=h
 have hc3:Tryz.prog.cellsOf 40 =3:=by kernel_rfl
 rcases open_slice Tryz.underlying24 hf with⟨hcs,_⟩|⟨a,len,cap,m,k,D,Pl,hcs,_,hl,_,hm,_,hx⟩
 ·simp[Value.cells]at hcs;obtain⟨rfl,rfl,rfl⟩:=hcs;exact⟨none,0,[],rfl,Reads.none_,fun _ h=>absurd h List.not_mem_nil⟩
 ·simp[Value.cells]at hcs;obtain⟨rfl,rfl,rfl⟩:=hcs;simp only[if_true]at hm;rw[hc3]at hx
  obtain⟨O,hO⟩:=choose_lt (α:=ow) (n:=Un) (p:=fun i o=>(o.f<18446744073709551616∧o.v<18446744073709551616)∧∀j,j<3→w.cell? ((a.add (i*3)).add j)=o.cells[j]?) (fun i hi=>by
   obtain⟨cs',h1,h2⟩:=hx i (by omega);obtain⟨_,_,hcell⟩:=World.cells?_some h1;obtain⟨p,rfl,hp⟩:=aan h2
   exact⟨p,hp,hcell⟩)
  refine⟨some a,cap0,(List.range Un).map O,by simp,⟨by rw[El],fun hn=> ?_⟩,fun p hp=> ?_⟩
  ·rw[List.length_map,List.length_range]at hn;obtain⟨b,off,spot⟩:=a;have h00:=(hO 0 (by omega)).2 0 (by omega)
   have hspot:spot=none:=by simpa[Addr.add]using World.cell?_spot (h00.trans rfl)
   subst hspot;refine⟨b,off,rfl,by simpa[Addr.add]using World.block_lt_of_cell? w _ (h00.trans rfl),fun j u hu=> ?_⟩
   have hj:j<Un*3:=by have:=(List.getElem?_eq_some_iff.1 hu).1;rw[El]at this;simpa using this
   have h1:=(hO (j/3) (by omega)).2 (j % 3) (by omega);have h2:=BX ((List.range Un).map O) (j/3) (O (j/3)) (by rw[List.getElem?_map,List.getElem?_range (by omega)];rfl) (j % 3) (by omega);rw[show j/3*3+j % 3=j by omega,hu]at h2;rw[add_plain,add_plain,show off+j/3*3+j % 3=off+j by omega]at h1;rw[h1,h2]
  ·obtain⟨i,hi,rfl⟩:=List.mem_map.1 hp;exact(hO i (by simpa using hi)).1
end
theorem contract (H:Type)(enc:TypeId×Value→H)(W:World)(base:Nat)(args:Array Value)(ds gs:List (DataW H))(before:List MemPlace)(hval:∀(j:Nat) t v,Tryz.f3.params[j]?=some t→args[j]?=some v→Value.okWide Tryz.prog W .any base t v)(hW:DataW.Whole enc Tryz.prog Tryz.f3.params.toList Rows.fmapActsSpec.vars false W args.toList ds gs before)(hL:laidMetH Tryz.prog Rows.fmapActsRow.laid W)(_:W.ShapedOpen Tryz.prog):
  Calls Tryz.prog 3 args W fun e W'=>∃v,e= .returned v∧Rows.fmapActsSpec.post enc Tryz.prog Tryz.f3 false true false false W args v W':=by
 have hW':=hW;obtain⟨p,q,hA0,hV,rfl,hfz,hnd⟩:=hW;have hA:DataW.TrodAll enc Tryz.prog W 0 (fun _=>true) true Tryz.f3.params.toList args.toList ds p:=hA0;rw[Tryz.params3]at hA hval;obtain⟨v0,vs0,d0,ds0,p0,q0,hargs,rfl,rfl,h0,r0⟩:=trodAll_cons hA;obtain⟨v1,vs1,d1,ds1,p1,q1,aeK,rfl,rfl,h1,r1⟩:=trodAll_cons r0;obtain⟨rfl,rfl,rfl⟩:=trodAll_nil r1
 obtain rfl:args= #[v0,v1]:=by cases args;simp_all
 obtain⟨rfl,rfl⟩:=trodVars_none hV;have h0k:=h0;have h1k:=h1;obtain⟨k,m,i,rfl⟩:=aam (hval 0 23 v0 rfl rfl) h0;obtain⟨A,c,l,rfl,hR,hb⟩:=XE (hval 1 24 v1 rfl rfl) h1;clear hA0;simp only[List.append_nil]at hW';obtain⟨E,hE,hEr⟩:=adu hL;have hlt:∀x∈p0++p1,x.block<W.heap.size:=fun x hx=>hW'.lt x hx;refine(aai (c:=c) k m i l hE hEr hR hb).mono fun e W' ⟨he,hb⟩=> ?_;subst he
 exact⟨_,rfl,Ms (pa:=p0++p1) (pv:=[]) hW' (fun _ _ _=>trodAll_cons_mk (shut_bool Tryz.underlying4 _) trodAll_mk0)
  (fun sp hsp=>by
   have:=trodAll_cons_mk (WideElems.Trod_stays (sp':=sp) laidOut (by kernel_rfl) (of_decide_eq_true (by kernel_rfl)) h0k (fun x hx=>hb.same (hlt x (by simp[hx]))) (fun x hx=>hsp x (by simp[hx])))
    (trodAll_cons_mk (WideElems.Trod_stays (sp':=sp) laidOut (by kernel_rfl) (of_decide_eq_true (by kernel_rfl)) h1k (fun x hx=>hb.same (hlt x (by simp[hx]))) (fun x hx=>hsp x (by simp[hx]))) trodAll_mk0)
   simp only[List.append_nil]at this
   exact this)
  (fun _ _=>rfl) (by simp)
  hb (ok_one (by kernel_rfl) rfl (okWide_bool_mk Tryz.underlying4 _))⟩
theorem lifted (os:Os)(started:os.Started)(H:Type)(enc:TypeId×Value→H):
  ReturnsInHanded {} Tryz.checked os 3 .any (fun w args=>(Rows.fmapActsSpec.pre enc Tryz.prog Tryz.f3 [] false w args∧laidMetH Tryz.prog Rows.fmapActsRow.laid w)∧sizedMet enc Tryz.prog Tryz.f3 (OpenSpec.ofChange Rows.fmapActsSpec) false w args)
   (Rows.fmapActsSpec.post enc Tryz.prog Tryz.f3 false true false false):=by
 refine Qv (C:=Tryz.checked) (X:=fun w _=>laidMetH Tryz.prog Rows.fmapActsRow.laid w) (fun _ _ _ hh h=>h.of_heap hh) own started (by kernel_rfl) Tryz.func3
  (ChangeSpec.witness_shaped (enc:=enc) (C:=Tryz.checked) (os:=os) (X:=fun w _=>laidMetH Tryz.prog Rows.fmapActsRow.laid w) false (World.laidAll Tryz.prog os Rows.fmapActsRow.laid) #[.agg #[.int .i64 0,.int .i64 0,.int .i64 0],.slice none 0 0] 8 (World.laidAll_os _ _ _)
   (World.shaped_of_ZipB (by kernel_rfl) (by kernel_rfl)) (by kernel_rfl) (by kernel_rfl) (by kernel_rfl)
   (by rw[MakeChecks.laidMetH_plain _ _ _ (by kernel_rfl)];exact laidMet_laidAll _ (by kernel_rfl) (by kernel_rfl))) ?_
 intro W base args ds gs before hval hW _ hL hsh;exact contract H enc W base args ds gs before hval hW hL hsh
theorem closed:joinedFacts Tryz.pinned.checked.prog 3 Tryz.f3 Rows.fmapActsSpec Rows.fmapActsRow=true:=by
 unfold joinedFacts;simp only[Bool.and_eq_true]
 repeat' apply And.intro
 all_goals (as_aux_lemma=>kernel_rfl)
theorem said:Rows.FmapActsSaid:=
 OpenClaim.holds_of_wide 3 Tryz.f3 rfl rfl rfl rfl rfl rfl rfl ⟨rfl,rfl,rfl,rfl,rfl⟩ rfl rfl rfl rfl rfl (by kernel_rfl) Tryz.func3 closed
  (of_decide_eq_true (by kernel_rfl)) (by unfold Func.isWrapper;first|(rw[if_pos (by decide+kernel)];kernel_rfl)|(rw[if_neg (by decide+kernel)];exact⟨rfl,rfl⟩))
  (fun os started H enc _=>lifted os started H enc)
theorem plain (f:FuncId)(fn:Func)(hf:Tryz.pinned.checked.prog.funcNamed "ambler/amblerlaw28.FmapActs" =some f)(hfn:Tryz.pinned.checked.prog.funcs[f]?=some fn):
  true=Tryz.pinned.checked.prog.looks []∧∀(j:Nat) t,fn.params[j]?=some t→Tryz.pinned.checked.prog.wantsStandIn t=false:=by
 obtain rfl:f=3 :=Option.some.inj ((show Tryz.prog.funcNamed "ambler/amblerlaw28.FmapActs" =some 3 by kernel_rfl).symm.trans hf)|>.symm
 obtain rfl:fn=Tryz.f3 :=(Option.some.inj (Tryz.func3.symm.trans hfn)).symm;refine⟨by kernel_rfl,fun j t ht=> ?_⟩;rw[Tryz.params3]at ht;have h:=Array.mem_of_getElem? ht;simp only[List.mem_toArray,List.mem_cons,List.not_mem_nil,or_false]at h;rcases h with rfl|rfl
 ·exact(show Tryz.prog.wantsStandIn 23 =false by kernel_rfl)
 ·exact(show Tryz.prog.wantsStandIn 24 =false by kernel_rfl)
theorem card:Rows.FmapActsCardSaid:=
 Claim7.holds_tied_plain_at .later [] _ _ _ _ said (fun _ h=>by cases h) (by kernel_rfl) (fun _ h=>by cases h) fmapActs_row_tie rfl ⟨rfl,rfl⟩ (by kernel_rfl) rfl plain (by kernel_rfl)
#print axioms card
end Go.Proofs.YtnfjjbpmhcbelaaGreatDoor.p28c
