/- TallyKeeps: the law's row and its tied card. -/
import Derived.Test.YtgkeameopnpinaaGreatDoorLaw47
import Derived.Test.YtgkeameopnpinaaGreatDoorLaid2
import Derived.Deep.Strs
import Derived.OpenShut
import Derived.Carry
import Derived.Laws.Cover2
import Derived.Test.YtgkeameopnpinaaGreatDoorCards
import Derived.Test.YtgkeameopnpinaaGreatDoorTie
import Derived.Lay
namespace Go.Proofs.YtgkeameopnpinaaGreatDoor.p47
set_option maxRecDepth 100000
set_option maxHeartbeats 40000000
open Go.ChangeShapes Go.WideShapes Go.ChangeAt Go.RowKit Go.Deep bY rZ lH
variable {t : TypeId} {cs : List Value} {p : List MemPlace} {W : World}
def db64:List Int:=[0,1,56,2,57,49,28,3,61,58,42,50,38,29,17,4,62,47,59,36,45,43,51,22,53,39,33,30,24,18,12,5,63,55,48,27,60,41,37,16,46,35,44,21,52,32,23,11,54,26,40,15,34,20,31,10,25,14,19,9,13,8,7,6]
def mixBs:List (List UInt8):=[[115,97,109,101],[111,110,101],[109,117,108,116],[102,110,118],[116,117,114,110],[116,111,112]]
theorem own:ownKnob Tryz.prog.godebug=none:=by kernel_rfl
theorem laidOut:laidOutB Tryz.prog=true:=by kernel_rfl
section
variable {H : Type} {enc : TypeId × Value → H} {P : Program} {w : World} {base : Nat} {spare : Nat → Bool} {held : Bool} {fuel : Nat}
theorem strs_cells {n:Nat}{e:TypeId}(ht:P.underlying t=some (.array n e))(he:P.underlying e=some .string)(hc:P.cellsOf e=1){l:List (List UInt8)}(h:DataW.trod enc P w base spare held fuel t cs=some (.agg (l.map fun b=>DataW.lit (Lit.string b)),p)):∀(i:Nat) (b:List UInt8),l[i]?=some b→cs[i]?=some (Value.string ⟨b.toArray⟩):=by
 obtain⟨xs,m,rfl,hx,hl,hxs,hf⟩:=DataW.trod_array ht h;intro i b hb
 have hx1:xs.map (·.1)=l.map fun b=>(DataW.lit (Lit.string b):DataW H):=by
  have:=congrArg Prod.fst hx;simp only at this
  injection this with this
  exact this.symm
 have hlen:xs.length=l.length:=by have:=congrArg List.length hx1;simpa using this
 have hi:i<l.length:=(List.getElem?_eq_some_iff.1 hb).1;have h1:=hf i (by omega);rw[hc,Nat.mul_one,List.getElem?_eq_getElem (by omega)]at h1;obtain⟨s,hs1,hs2,_⟩:=DataW.trod_string he h1
 have h2:(xs.map (·.1))[i]?=some (DataW.lit (Lit.string b)):=by rw[hx1,List.getElem?_map,hb];rfl
 rw[List.getElem?_map,List.getElem?_eq_getElem (by omega),hs2]at h2;simp only[Option.map_some,Option.some.injEq]at h2
 injection h2 with h2
 injection h2 with h2
 have h3:=congrArg (·[0]?) hs1;simp only[List.getElem?_take,List.getElem?_drop,List.getElem?_cons_zero]at h3;rw[if_pos (by omega),Nat.add_zero]at h3;rw[h3,←h2]
end
theorem mixwords_at {l:List (String×DataW Unit)}(h:laidMet Tryz.prog l W)(p:Nat)(hl:l[p]?=some ("ambler/mix.words",.agg (mixBs.map fun b=>DataW.lit (Lit.string b)))):
  ∀i,i<6→W.cell? ⟨4,i,none⟩=some (.string ⟨(mixBs.getD i []).toArray⟩):=by
 obtain⟨ps,hv,hnd,hrows⟩:=h;obtain⟨pl,e1,e2,e3⟩:=Gw l ps hv;obtain⟨g',t,cs,fuel,p',h1,h2,h3,h4,h5⟩:=e3 _ _ _ hl
 obtain rfl:=Option.some.inj ((show Tryz.prog.globalNamed "ambler/mix.words" =some 4 by kernel_rfl).symm.trans h1)
 obtain rfl:=Option.some.inj ((show(Tryz.prog.globals[4]?).map (·.type)=some 69 by kernel_rfl).symm.trans h2);intro i hi
 have hb:mixBs[i]?=some (mixBs.getD i []):=by
  have h6:mixBs.length=6:=rfl
  have:i<mixBs.length:=by omega
  simp[List.getElem?_eq_getElem this,List.getD_eq_getElem?_getD]
 have:=strs_cells Tryz.underlying69 Tryz.underlying9 (by kernel_rfl) h4 i _ hb;rw[World.var?_cell h1 h3 i];simpa using this
theorem mixwords_laid (h:laidMet Tryz.prog Rows.tallyKeepsRow.laid W):Ae W:=fun k hk=>by
 refine⟨_,mixwords_at h 14 rfl k (by omega), ?_⟩
 match k,hk with
 |0,_=>rw[ByteArray.toList_eq];rfl
 |1,_=>rw[ByteArray.toList_eq];rfl
 |2,_=>rw[ByteArray.toList_eq];rfl
 |3,_=>rw[ByteArray.toList_eq];rfl
 |4,_=>rw[ByteArray.toList_eq];rfl
 |5,_=>rw[ByteArray.toList_eq];rfl
section
variable {H : Type} {enc : TypeId × Value → H} {w : World} {base : Nat} {spare : Nat → Bool} {held : Bool} {fuel : Nat}
theorem trod_float {P:Program}{k:FloatKind}{x:DataW H×List MemPlace}(ht:P.underlying t=some (.float k))(h:DataW.trod enc P w base spare held fuel t cs=some x):∃b,cs=[.float k b]∧x=(.lit (.float k b),[])∧(Lit.float k b).wf=true:=by
 cases fuel with
 |zero=>simp[DataW.trod]at h
 |succ n=>
  unfold DataW.trod at h;rw[ht]at h
  split at h<;>simp_all
theorem float_trod {x:DataW H×List MemPlace}(h:DataW.trod enc Tryz.prog w base spare held fuel 24 cs=some x):∃b,cs=[.float .f64 b]∧b<18446744073709551616:=by
 obtain⟨b,rfl,_,hw⟩:=trod_float Tryz.underlying24 h;refine⟨b,rfl, ?_⟩
 have:b<2^64:=by simpa[Lit.wf]using hw
 have e:(2:Nat)^64=18446744073709551616:=by decide
 rw[←e];exact this
theorem act_trod {x:DataW H×List MemPlace}(h:DataW.trod enc Tryz.prog w base spare held fuel 34 cs=some x):∃a:TAct,cs=a.cells∧a.key<18446744073709551616∧a.f<18446744073709551616:=by
 obtain⟨xs,m,rfl,rfl,hl,hxs,hf⟩:=DataW.trod_struct Tryz.underlying34 h
 have hc1:Tryz.prog.cellsOf 3 =1:=by kernel_rfl
 have hc2:Tryz.prog.cellsOf 23 =1:=by kernel_rfl
 have hc3:Tryz.prog.cellsOf 24 =1:=by kernel_rfl
 rw[show Tryz.prog.cellsOf 34 =3 by kernel_rfl]at hl;have hx3:xs.length=3:=hxs;have f0:DataW.trod enc Tryz.prog w base spare held m 3 ((cs.drop 0).take (Tryz.prog.cellsOf 3))=xs[0]?:=hf 0 _ rfl;have f1:DataW.trod enc Tryz.prog w base spare held m 23 ((cs.drop 1).take (Tryz.prog.cellsOf 23))=xs[1]?:=hf 1 _ rfl;have f2:DataW.trod enc Tryz.prog w base spare held m 24 ((cs.drop 2).take (Tryz.prog.cellsOf 24))=xs[2]?:=hf 2 _ rfl;rw[hc1]at f0;rw[hc2]at f1;rw[hc3]at f2;rw[List.getElem?_eq_getElem (by omega)]at f0 f1 f2;obtain⟨n0,q0,_,_⟩:=DataW.trod_int Tryz.underlying3 f0;obtain⟨n1,q1,_,w1⟩:=DataW.trod_int Tryz.underlying23 f1;obtain⟨n2,q2,w2⟩:=float_trod f2;have b1:=Go.bounds_u64 w1;refine⟨⟨n0,n1.toNat,n2⟩, ?_,by show n1.toNat<_;omega,w2⟩
 match cs,hl with
 | [a,b,c],_=>
  simp at q0 q1 q2
  have e:n1=((n1.toNat:Nat):Int):=by omega
  rw[q0,q1,q2];exact congrArg (fun z:Int=> [Value.int .i64 n0,Value.int .u64 z,Value.float .f64 n2]) e
instance :Inhabited TAct:=⟨⟨0,0,0⟩⟩
theorem open_acts {v:Value}{d:DataW H}(ho:Value.okWide Tryz.prog w .any base 22 v)(h:DataW.Trod enc Tryz.prog w 0 (fun _=>true) true 22 v d p):
  ∃(A:Option Addr) (c:Nat) (l:List TAct),v= .slice A l.length c∧Reads w w.heap.size 3 A l.length (l.flatMap TAct.cells)∧∀a∈l,a.key<18446744073709551616∧a.f<18446744073709551616:=by
 obtain⟨a0,len0,cap0,rfl⟩:=okWide_slice Tryz.underlying22 ho;obtain⟨fuel,hf⟩:=h
 have hc3:Tryz.prog.cellsOf 34 =3:=by kernel_rfl
 rcases open_slice Tryz.underlying22 hf with⟨hcs,_⟩|⟨a,len,cap,m,k,D,Pl,hcs,_,hl,_,hm,_,hx⟩
 ·simp[Value.cells]at hcs;obtain⟨rfl,rfl,rfl⟩:=hcs;exact⟨none,0,[],rfl,Reads.none_,fun _ h=>absurd h List.not_mem_nil⟩
 ·simp[Value.cells]at hcs;obtain⟨rfl,rfl,rfl⟩:=hcs;simp only[if_true]at hm;rw[hc3]at hx
  obtain⟨O,hO⟩:=choose_lt (α:=TAct) (n:=len0) (p:=fun i o=>(o.key<18446744073709551616∧o.f<18446744073709551616)∧∀j,j<3→w.cell? ((a.add (i*3)).add j)=o.cells[j]?) (fun i hi=>by
   obtain⟨cs',h1,h2⟩:=hx i (by omega);obtain⟨_,_,hcell⟩:=World.cells?_some h1;obtain⟨p,rfl,hp⟩:=act_trod h2
   exact⟨p,hp,hcell⟩)
  refine⟨some a,cap0,(List.range len0).map O,by simp,⟨by rw[acts_length],fun hn=> ?_⟩,fun p hp=> ?_⟩
  ·rw[List.length_map,List.length_range]at hn;obtain⟨b,off,spot⟩:=a;have h00:=(hO 0 (by omega)).2 0 (by omega)
   have hspot:spot=none:=by simpa[Addr.add]using World.cell?_spot (h00.trans rfl)
   subst hspot;refine⟨b,off,rfl,by simpa[Addr.add]using World.block_lt_of_cell? w _ (h00.trans rfl),fun j u hu=> ?_⟩
   have hj:j<len0*3:=by have:=(List.getElem?_eq_some_iff.1 hu).1;rw[acts_length]at this;simpa using this
   have h1:=(hO (j/3) (by omega)).2 (j % 3) (by omega);have h2:=acts_at ((List.range len0).map O) (j/3) (O (j/3)) (by rw[List.getElem?_map,List.getElem?_range (by omega)];rfl) (j % 3) (by omega);rw[show j/3*3+j % 3=j by omega,hu]at h2;rw[add_plain,add_plain,show off+j/3*3+j % 3=off+j by omega]at h1;rw[h1,h2]
  ·obtain⟨i,hi,rfl⟩:=List.mem_map.1 hp;exact(hO i (by simpa using hi)).1
end
theorem lib_in (h:laidMet Tryz.prog Rows.tallyKeepsRow.laid W):∃E,Env W E W∧Ae W∧dV E W 6∧dV E W 11∧dV E W 13:=by
 have ht:=Lib.tabIs_of_head (P:=Tryz.prog) (g:=14) (t:=341) (e:=5) (n:=64) (zs:=db64) (by kernel_rfl) (by kernel_rfl) (by kernel_rfl) Tryz.underlying5 (by kernel_rfl) (by kernel_rfl) h;refine⟨Y8 W,⟨Below.refl _ _,⟨fun k hk=> ?_⟩,fun i hi=> ?_⟩,mixwords_laid h,adE (adD (g:=gE 6) h 6 rfl (by kernel_rfl) (by kernel_rfl)),adE (adD (g:=gE 11) h 9 rfl (by kernel_rfl) (by kernel_rfl)),adE (adD (g:=gE 13) h 11 rfl (by kernel_rfl) (by kernel_rfl))⟩
 ·rcases hk with rfl|rfl|rfl
  ·exact adE (adD (g:=gE 1) h 1 rfl (by kernel_rfl) (by kernel_rfl))
  ·exact adE (adD (g:=gE 2) h 2 rfl (by kernel_rfl) (by kernel_rfl))
  ·exact adE (adD (g:=gE 5) h 5 rfl (by kernel_rfl) (by kernel_rfl))
 ·match i,hi with
  |0,_=>exact ht.cell (by kernel_rfl) _ (by decide)
  |1,_=>exact ht.cell (by kernel_rfl) _ (by decide)
  |2,_=>exact ht.cell (by kernel_rfl) _ (by decide)
  |3,_=>exact ht.cell (by kernel_rfl) _ (by decide)
  |4,_=>exact ht.cell (by kernel_rfl) _ (by decide)
  |5,_=>exact ht.cell (by kernel_rfl) _ (by decide)
  |6,_=>exact ht.cell (by kernel_rfl) _ (by decide)
  |7,_=>exact ht.cell (by kernel_rfl) _ (by decide)
theorem contract (H:Type)(enc:TypeId×Value→H)(W:World)(base:Nat)(args:Array Value)(ds gs:List (DataW H))(before:List MemPlace)(hval:∀(j:Nat) t v,Tryz.f3.params[j]?=some t→args[j]?=some v→Value.okWide Tryz.prog W .any base t v)(hW:DataW.Whole enc Tryz.prog Tryz.f3.params.toList Rows.tallyKeepsSpec.vars false W args.toList ds gs before)(hL:laidMetH Tryz.prog Rows.tallyKeepsRow.laid W)(_:W.ShapedOpen Tryz.prog):
  Calls Tryz.prog 3 args W fun e W'=>∃v,e= .returned v∧Rows.tallyKeepsSpec.post enc Tryz.prog Tryz.f3 false true false false W args v W':=by
 have hW':=hW;obtain⟨p,q,hA0,hV,rfl,hfz,hnd⟩:=hW;have hA:DataW.TrodAll enc Tryz.prog W 0 (fun _=>true) true Tryz.f3.params.toList args.toList ds p:=hA0;rw[Tryz.params3]at hA hval;obtain⟨v0,vs0,d0,ds0,p0,q0,hargs,rfl,rfl,h0,r0⟩:=trodAll_cons hA;obtain⟨v1,vs1,d1,ds1,p1,q1,hargs1,rfl,rfl,h1,r1⟩:=trodAll_cons r0;obtain⟨v2,vs2,d2,ds2,p2,q2,hargs2,rfl,rfl,h2,r2⟩:=trodAll_cons r1;obtain⟨rfl,rfl,rfl⟩:=trodAll_nil r2
 obtain rfl:args= #[v0,v1,v2]:=by cases args;simp_all
 obtain⟨rfl,rfl⟩:=trodVars_none hV;have h0k:=h0;have h1k:=h1;have h2k:=h2;obtain⟨A,c,l,rfl,hR,hb⟩:=open_acts (hval 0 22 v0 rfl rfl) h0;obtain⟨n1,hv1,_,_,hw1⟩:=open_int Tryz.underlying23 (hval 1 23 v1 rfl rfl) h1;obtain⟨f,hv2,_,_,hw2⟩:=open_float Tryz.underlying24 (hval 2 24 v2 rfl rfl) h2;have b1:=Go.bounds_u64 hw1
 have b2:f<18446744073709551616:=by
  have:f<2^64:=by simpa[Lit.wf]using hw2
  have e:(2:Nat)^64=18446744073709551616:=by decide
  rw[←e];exact this
 obtain⟨key,hkey⟩:∃k:Nat,n1=(k:Int):=⟨n1.toNat,by omega⟩;subst hkey;subst hv1;subst hv2;clear hA0;simp only[List.append_nil]at hW';obtain⟨E,hE,hMw,h6,h11,U0⟩:=lib_in hL;have hlt:∀x∈p0++(p1++p2),x.block<W.heap.size:=fun x hx=>hW'.lt x hx;refine(law_keeps (c:=c) l key f hE hMw h6 h11 U0 hR hb (by omega) b2).mono fun e W' ⟨he,hb⟩=> ?_;subst he
 exact⟨_,rfl,post_of_below (pa:=p0++(p1++p2)) (pv:=[]) hW' (fun _ _ _=>trodAll_cons_mk (shut_bool Tryz.underlying4 _) trodAll_mk0)
  (fun sp hsp=>by
   have:=trodAll_cons_mk (WideElems.Trod_stays (sp':=sp) laidOut (by kernel_rfl) (of_decide_eq_true (by kernel_rfl)) h0k (fun x hx=>hb.same (hlt x (by simp[hx]))) (fun x hx=>hsp x (by simp[hx])))
    (trodAll_cons_mk (WideElems.Trod_stays (sp':=sp) laidOut (by kernel_rfl) (of_decide_eq_true (by kernel_rfl)) h1k (fun x hx=>hb.same (hlt x (by simp[hx]))) (fun x hx=>hsp x (by simp[hx])))
    (trodAll_cons_mk (WideElems.Trod_stays (sp':=sp) laidOut (by kernel_rfl) (of_decide_eq_true (by kernel_rfl)) h2k (fun x hx=>hb.same (hlt x (by simp[hx]))) (fun x hx=>hsp x (by simp[hx]))) trodAll_mk0))
   simp only[List.append_nil]at this
   exact this)
  (fun _ _=>rfl) (by simp)
  hb (ok_one (by kernel_rfl) rfl (okWide_bool_mk Tryz.underlying4 _))⟩
theorem lifted (os:Os)(started:os.Started)(H:Type)(enc:TypeId×Value→H):
  ReturnsInHanded {} Tryz.checked os 3 .any (fun w args=>(Rows.tallyKeepsSpec.pre enc Tryz.prog Tryz.f3 [] false w args∧laidMetH Tryz.prog Rows.tallyKeepsRow.laid w)∧sizedMet enc Tryz.prog Tryz.f3 (OpenSpec.ofChange Rows.tallyKeepsSpec) false w args)
   (Rows.tallyKeepsSpec.post enc Tryz.prog Tryz.f3 false true false false):=by
 refine returnsLaid (C:=Tryz.checked) (X:=fun w _=>laidMetH Tryz.prog Rows.tallyKeepsRow.laid w) (fun _ _ _ hh h=>h.of_heap hh) own started (by kernel_rfl) Tryz.func3
  (ChangeSpec.witness_shaped (enc:=enc) (C:=Tryz.checked) (os:=os) (X:=fun w _=>laidMetH Tryz.prog Rows.tallyKeepsRow.laid w) false (World.laidAll Tryz.prog os Rows.tallyKeepsRow.laid) #[.slice none 0 0,.int .u64 0,.float .f64 0] 8 (World.laidAll_os _ _ _)
   (World.shaped_of_ZipB (by kernel_rfl) (by kernel_rfl)) (by kernel_rfl) (by kernel_rfl) (by kernel_rfl)
   (by rw[MakeChecks.laidMetH_plain _ _ _ (by kernel_rfl)];exact laidMet_laidAll _ (by kernel_rfl) (by kernel_rfl))) ?_
 intro W base args ds gs before hval hW _ hL hsh;exact contract H enc W base args ds gs before hval hW hL hsh
theorem closed:joinedFacts Tryz.pinned.checked.prog 3 Tryz.f3 Rows.tallyKeepsSpec Rows.tallyKeepsRow=true:=by
 unfold joinedFacts;simp only[Bool.and_eq_true]
 repeat' apply And.intro
 all_goals (as_aux_lemma=>kernel_rfl)
theorem said:Rows.TallyKeepsSaid:=
 OpenClaim.holds_of_wide 3 Tryz.f3 rfl rfl rfl rfl rfl rfl rfl ⟨rfl,rfl,rfl,rfl,rfl⟩ rfl rfl rfl rfl rfl (by kernel_rfl) Tryz.func3 closed
  (of_decide_eq_true (by kernel_rfl)) (by unfold Func.isWrapper;first|(rw[if_pos (by decide+kernel)];kernel_rfl)|(rw[if_neg (by decide+kernel)];exact⟨rfl,rfl⟩))
  (fun os started H enc _=>lifted os started H enc)
theorem plain (f:FuncId)(fn:Func)(hf:Tryz.pinned.checked.prog.funcNamed "ambler/amblerlaw47.TallyKeeps" =some f)(hfn:Tryz.pinned.checked.prog.funcs[f]?=some fn):
  true=Tryz.pinned.checked.prog.looks []∧∀(j:Nat) t,fn.params[j]?=some t→Tryz.pinned.checked.prog.wantsStandIn t=false:=by
 obtain rfl:f=3 :=Option.some.inj ((show Tryz.prog.funcNamed "ambler/amblerlaw47.TallyKeeps" =some 3 by kernel_rfl).symm.trans hf)|>.symm
 obtain rfl:fn=Tryz.f3 :=(Option.some.inj (Tryz.func3.symm.trans hfn)).symm;refine⟨by kernel_rfl,fun j t ht=> ?_⟩;rw[Tryz.params3]at ht;have h:=Array.mem_of_getElem? ht;simp only[List.mem_toArray,List.mem_cons,List.not_mem_nil,or_false]at h;rcases h with rfl|rfl|rfl
 ·exact(show Tryz.prog.wantsStandIn 22 =false by kernel_rfl)
 ·exact(show Tryz.prog.wantsStandIn 23 =false by kernel_rfl)
 ·exact(show Tryz.prog.wantsStandIn 24 =false by kernel_rfl)
theorem card:Rows.TallyKeepsCardSaid:=
 Claim7.holds_tied_plain_at .later [] _ _ _ _ said (fun _ h=>by cases h) (by kernel_rfl) (fun _ h=>by cases h) tallyKeeps_row_tie rfl ⟨rfl,rfl⟩ (by kernel_rfl) rfl plain (by kernel_rfl)
#print axioms card
end Go.Proofs.YtgkeameopnpinaaGreatDoor.p47
