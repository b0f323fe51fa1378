/- SnapTexts: the law's row and its tied card. -/
import Derived.Test.YtjfgpnapccdnlaaGreatDoorLaid2
import Derived.OpenShut
import Derived.Deep.Strs
import Derived.Carry
import Derived.Test.YtjfgpnapccdnlaaGreatDoorCards
import Derived.Test.YtjfgpnapccdnlaaGreatDoorTie
import Derived.Lay
namespace Go.Proofs.YtjfgpnapccdnlaaGreatDoor.p39d
set_option maxRecDepth 100000
set_option maxHeartbeats 40000000
open Go.ChangeShapes Go.WideShapes Go.ChangeAt Go.RowKit Go.Deep dF wF
open Go.ChangeMaps (open_string shut_string)
def afS:List Int:=[0,1,56,2,57,49,28,3,61,58,42,50,38,29,17,4,62,47,59,36,45,43,51,22,53,39,33,30,24,18,12,5,63,55,48,27,60,41,37,16,46,35,44,21,52,32,23,11,54,26,40,15,34,20,31,10,25,14,19,9,13,8,7,6]
theorem own:ownKnob Tryz.prog.godebug=none:=by kernel_rfl
theorem laidOut:laidOutB Tryz.prog=true:=by kernel_rfl
theorem gSp:Tryz.prog.globalNamed "strings.asciiSpace" =some 16 :=by kernel_rfl
section
variable {H : Type} {enc : TypeId × Value → H} {w : World} {base : Nat} {spare : Nat → Bool} {held : Bool} {fuel : Nat}
theorem Yv {cs:List Value}{x:DataW H×List MemPlace}(h:DataW.trod enc Tryz.prog w base spare held fuel 49 cs=some x):∃p:Nat×Nat,cs=bB p∧p.1<18446744073709551616∧p.2<18446744073709551616:=by
 obtain⟨xs,m,rfl,rfl,hl,hxs,hf⟩:=DataW.trod_struct Tryz.underlying49 h
 have hc1:Tryz.prog.cellsOf 28 =1:=by kernel_rfl
 have hc2:Tryz.prog.cellsOf 49 =2:=by kernel_rfl
 rw[hc2]at hl;have hx2:xs.length=2:=hxs;have f0:DataW.trod enc Tryz.prog w base spare held m 28 ((cs.drop 0).take (Tryz.prog.cellsOf 28))=xs[0]?:=hf 0 _ rfl;have f1:DataW.trod enc Tryz.prog w base spare held m 28 ((cs.drop 1).take (Tryz.prog.cellsOf 28))=xs[1]?:=hf 1 _ rfl;rw[hc1]at f0 f1;rw[List.getElem?_eq_getElem (by omega)]at f0 f1;obtain⟨n0,q0,_,w0⟩:=DataW.trod_int Tryz.underlying28 f0;obtain⟨n1,q1,_,w1⟩:=DataW.trod_int Tryz.underlying28 f1;have b0:=Go.bounds_u64 w0;have b1:=Go.bounds_u64 w1;refine⟨(n0.toNat,n1.toNat), ?_,by show n0.toNat<_;omega,by show n1.toNat<_;omega⟩
 match cs,hl with
 | [a,b],_=>
  simp at q0 q1;simp only[bB];rw[q0,q1,show((n0.toNat:Nat):Int)=n0 by omega,show((n1.toNat:Nat):Int)=n1 by omega]
theorem Vs {v:Value}{d:DataW H}{p:List MemPlace}(ho:Value.okWide Tryz.prog w .any base 22 v)(h:DataW.Trod enc Tryz.prog w 0 (fun _=>true) true 22 v d p):
  ∃(A:Option Addr) (n c:Nat) (l:List (Nat×Nat)),v= .slice A n c∧n=l.length∧Reads w w.heap.size 2 A l.length (l.flatMap bB)∧∀p∈l,p.1<18446744073709551616∧p.2<18446744073709551616:=by
 obtain⟨a0,QJ,cap0,rfl⟩:=okWide_slice Tryz.underlying22 ho;obtain⟨fuel,hf⟩:=h
 have hc2:Tryz.prog.cellsOf 49 =2:=by kernel_rfl
 rcases open_slice Tryz.underlying22 hf with⟨hcs,_⟩|⟨a,len,cap,m,k,D,Pl,hcs,_,hl,_,hm,_,hx⟩
 ·simp[Value.cells]at hcs;obtain⟨rfl,rfl,rfl⟩:=hcs;exact⟨none,0,0,[],rfl,rfl,Reads.none_,fun _ h=>absurd h List.not_mem_nil⟩
 ·simp[Value.cells]at hcs;obtain⟨rfl,rfl,rfl⟩:=hcs;simp only[if_true]at hm;rw[hc2]at hx
  obtain⟨O,hO⟩:=choose_lt (α:=Nat×Nat) (n:=QJ) (p:=fun i o=>(o.1<18446744073709551616∧o.2<18446744073709551616)∧∀j,j<2→w.cell? ((a.add (i*2)).add j)=(bB o)[j]?) (fun i hi=>by
   obtain⟨cs',h1,h2⟩:=hx i (by omega);obtain⟨_,_,hcell⟩:=World.cells?_some h1;obtain⟨p,rfl,hp⟩:=Yv h2
   exact⟨p,hp,hcell⟩)
  refine⟨some a,QJ,cap0,(List.range QJ).map O,rfl,by simp,⟨by rw[fC],fun hn=> ?_⟩,fun p hp=> ?_⟩
  ·rw[List.length_map,List.length_range]at hn;obtain⟨b,off,spot⟩:=a;have h00:=(hO 0 (by omega)).2 0 (by omega)
   have hspot:spot=none:=by simpa[Addr.add]using World.cell?_spot (h00.trans rfl)
   subst hspot;refine⟨b,off,rfl,by simpa[Addr.add]using World.block_lt_of_cell? w _ (h00.trans rfl),fun j u hu=> ?_⟩
   have hj:j<QJ*2:=by have:=(List.getElem?_eq_some_iff.1 hu).1;rw[fC]at this;simpa using this
   have h1:=(hO (j/2) (by omega)).2 (j % 2) (by omega);have h2:=eY (q:=j % 2) (l:=(List.range QJ).map O) (i:=j/2) (p:=O (j/2)) (by rw[List.getElem?_map,List.getElem?_range (by omega)];rfl) (by omega);rw[show j/2*2+j % 2=j by omega,hu]at h2;rw[add_plain,add_plain,show off+j/2*2+j % 2=off+j by omega]at h1;rw[h1,h2]
   have h3:j % 2=0∨j % 2=1:=by omega
   rcases h3 with e|e<;>rw[e]<;>rfl
  ·obtain⟨i,hi,rfl⟩:=List.mem_map.1 hp;exact(hO i (by simpa using hi)).1
end
theorem afT:∀k,k<16→∃n text,Rows.snapTextsRow.laid[4+k]?=some (n,abd text)∧Tryz.prog.globalNamed n=some (gE (k+1))∧(Tryz.prog.globals[gE (k+1)]?).map (·.type)=some 32
 |0,_=>⟨_,_,rfl,by kernel_rfl,by kernel_rfl⟩|1,_=>⟨_,_,rfl,by kernel_rfl,by kernel_rfl⟩|2,_=>⟨_,_,rfl,by kernel_rfl,by kernel_rfl⟩|3,_=>⟨_,_,rfl,by kernel_rfl,by kernel_rfl⟩|4,_=>⟨_,_,rfl,by kernel_rfl,by kernel_rfl⟩|5,_=>⟨_,_,rfl,by kernel_rfl,by kernel_rfl⟩|6,_=>⟨_,_,rfl,by kernel_rfl,by kernel_rfl⟩|7,_=>⟨_,_,rfl,by kernel_rfl,by kernel_rfl⟩|8,_=>⟨_,_,rfl,by kernel_rfl,by kernel_rfl⟩|9,_=>⟨_,_,rfl,by kernel_rfl,by kernel_rfl⟩|10,_=>⟨_,_,rfl,by kernel_rfl,by kernel_rfl⟩|11,_=>⟨_,_,rfl,by kernel_rfl,by kernel_rfl⟩|12,_=>⟨_,_,rfl,by kernel_rfl,by kernel_rfl⟩|13,_=>⟨_,_,rfl,by kernel_rfl,by kernel_rfl⟩|14,_=>⟨_,_,rfl,by kernel_rfl,by kernel_rfl⟩|15,_=>⟨_,_,rfl,by kernel_rfl,by kernel_rfl⟩
 |_+16,h=>absurd h (by omega)
theorem aek {W:World}(h:laidMet Tryz.prog Rows.snapTextsRow.laid W)(hsh:W.ShapedOpen Tryz.prog):∃E,Env W E W∧eU E W∧fK E W∧iF E W∧W.cell? ⟨21,15,none⟩=some (.int .u8 4):=by
 obtain⟨E,hE⟩:=Kw h 4 afT;have hd1:=EC 1 _ h;have ht:=Lib.tabIs_of_head (P:=Tryz.prog) (g:=21) (t:=378) (e:=5) (n:=64) (zs:=afS) (by kernel_rfl) (by kernel_rfl) (by kernel_rfl) Tryz.underlying5 (by kernel_rfl) (by kernel_rfl) hd1;have afU:=EC 23 _ h;have hsp:=Lib.tabIs_of_head (t:=168) (e:=5) (n:=256) (zs:=Lib.asciiSpaceTab) gSp (by kernel_rfl) (by kernel_rfl) Tryz.underlying5 (by kernel_rfl) (by kernel_rfl) afU;obtain⟨a1,ha1⟩:=QI (g:=24) h 21 rfl (by kernel_rfl) (by kernel_rfl);obtain⟨a2,ha2⟩:=QI (g:=25) h 20 rfl (by kernel_rfl) (by kernel_rfl);refine⟨E,⟨Below.refl _ _,hE.core,fun i hi=> ?_⟩,hE,⟨hE.at_ 3 (by omega) (by omega),hE.at_ 9 (by omega) (by omega),Tryz.laysM146.s1_3 W hsh,hsp⟩,⟨hE.at_ 13 (by omega) (by omega),⟨_,_,ha1⟩,⟨_,_,ha2⟩⟩,ht.cell (by kernel_rfl) _ (by decide)⟩
 ·match i,hi with
  |0,_=>exact ht.cell (by kernel_rfl) _ (by decide)
  |1,_=>exact ht.cell (by kernel_rfl) _ (by decide)
  |2,_=>exact ht.cell (by kernel_rfl) _ (by decide)
  |3,_=>exact ht.cell (by kernel_rfl) _ (by decide)
  |4,_=>exact ht.cell (by kernel_rfl) _ (by decide)
  |5,_=>exact ht.cell (by kernel_rfl) _ (by decide)
  |6,_=>exact ht.cell (by kernel_rfl) _ (by decide)
  |7,_=>exact ht.cell (by kernel_rfl) _ (by decide)
theorem contract (H:Type)(enc:TypeId×Value→H)(W:World)(base:Nat)(args:Array Value)(ds gs:List (DataW H))(before:List MemPlace)
  (hval:∀(j:Nat) t v,Tryz.f3.params[j]?=some t→args[j]?=some v→Value.okWide Tryz.prog W .any base t v)
  (hW:DataW.Whole enc Tryz.prog Tryz.f3.params.toList Rows.snapTextsSpec.vars false W args.toList ds gs before) (hL:laidMetH Tryz.prog Rows.snapTextsRow.laid W) (hsh:W.ShapedOpen Tryz.prog):
  Calls Tryz.prog 3 args W fun e W'=>∃v,e= .returned v∧Rows.snapTextsSpec.post enc Tryz.prog Tryz.f3 false true false false W args v W':=by
 have hW':=hW;obtain⟨p,q,hA0,hV,rfl,hfz,hnd⟩:=hW;have hA:DataW.TrodAll enc Tryz.prog W 0 (fun _=>true) true Tryz.f3.params.toList args.toList ds p:=hA0;rw[Tryz.params3]at hA hval;obtain⟨v0,vs0,d0,ds0,p0,q0,hargs,rfl,rfl,h0,r0⟩:=trodAll_cons hA;obtain⟨v1,vs1,d1,ds1,p1,q1,afZ,rfl,rfl,h1,r1⟩:=trodAll_cons r0;obtain⟨rfl,rfl,rfl⟩:=trodAll_nil r1
 obtain rfl:args= #[v0,v1]:=by cases args;simp_all
 obtain⟨rfl,rfl⟩:=trodVars_none hV;have h0k:=h0;have h1k:=h1;obtain⟨A,n,c,l,rfl,rfl,hR,h64⟩:=Vs (hval 0 22 v0 rfl rfl) h0;obtain⟨sa,rfl,rfl,rfl,hsa⟩:=open_string Tryz.underlying9 (hval 1 9 v1 rfl rfl) h1;clear hA0;simp only[List.append_nil]at hW';obtain⟨E,hE,hEr,hWd,hN,hT⟩:=aek hL hsh;have hlt:∀x∈p0,x.block<W.heap.size:=fun x hx=>hW'.lt x hx;refine(Ky sa▸Nt (c:=c) sa.data.toList hR h64 hE hEr hWd hN hT).mono fun e W' ⟨he,hb⟩=> ?_;subst he
 exact⟨_,rfl,Nu (pa:=p0) (pv:=[]) hW' (fun _ _ _=>trodAll_cons_mk (shut_bool Tryz.underlying4 _) trodAll_mk0)
  (fun sp hsp=>by
   have:=trodAll_cons_mk (WideElems.Trod_stays (sp':=sp) laidOut (by kernel_rfl) (of_decide_eq_true (by kernel_rfl)) h0k (fun x hx=>hb.same (hlt x (by simp[hx]))) (fun x hx=>hsp x (by simp[hx])))
    (trodAll_cons_mk (shut_string Tryz.underlying9 hsa) trodAll_mk0)
   simp only[List.append_nil]at this
   exact this)
  (fun _ _=>rfl) (by simp)
  hb (ok_one (by kernel_rfl) rfl (okWide_bool_mk Tryz.underlying4 _))⟩
theorem lifted (os:Os)(started:os.Started)(H:Type)(enc:TypeId×Value→H):
  ReturnsInHanded {} Tryz.checked os 3 .any (fun w args=>(Rows.snapTextsSpec.pre enc Tryz.prog Tryz.f3 [] false w args∧laidMetH Tryz.prog Rows.snapTextsRow.laid w)∧sizedMet enc Tryz.prog Tryz.f3 (OpenSpec.ofChange Rows.snapTextsSpec) false w args)
   (Rows.snapTextsSpec.post enc Tryz.prog Tryz.f3 false true false false):=by
 refine RG (C:=Tryz.checked) (X:=fun w _=>laidMetH Tryz.prog Rows.snapTextsRow.laid w) (fun _ _ _ hh h=>h.of_heap hh) own started (by kernel_rfl) Tryz.func3
  (ChangeSpec.witness_shaped (enc:=enc) (C:=Tryz.checked) (os:=os) (X:=fun w _=>laidMetH Tryz.prog Rows.snapTextsRow.laid w) false (World.laidAll Tryz.prog os Rows.snapTextsRow.laid) #[.slice none 0 0,.string ⟨#[]⟩] 8 (World.laidAll_os _ _ _)
   (World.shaped_of_ZipB (by kernel_rfl) (by kernel_rfl)) (by kernel_rfl) (by kernel_rfl) (by kernel_rfl)
   (by rw[MakeChecks.laidMetH_plain _ _ _ (by kernel_rfl)];exact laidMet_laidAll _ (by kernel_rfl) (by kernel_rfl))) ?_
 intro W base args ds gs before hval hW _ hL hsh;exact contract H enc W base args ds gs before hval hW hL hsh
theorem closed:joinedFacts Tryz.pinned.checked.prog 3 Tryz.f3 Rows.snapTextsSpec Rows.snapTextsRow=true:=by
 unfold joinedFacts;simp only[Bool.and_eq_true]
 repeat' apply And.intro
 all_goals (as_aux_lemma=>kernel_rfl)
theorem said:Rows.SnapTextsSaid:=
 OpenClaim.holds_of_wide 3 Tryz.f3 rfl rfl rfl rfl rfl rfl rfl ⟨rfl,rfl,rfl,rfl,rfl⟩ rfl rfl rfl rfl rfl (by kernel_rfl) Tryz.func3 closed
  (of_decide_eq_true (by kernel_rfl)) (by unfold Func.isWrapper;first|(rw[if_pos (by decide+kernel)];kernel_rfl)|(rw[if_neg (by decide+kernel)];exact⟨rfl,rfl⟩))
  (fun os started H enc _=>lifted os started H enc)
theorem plain (f:FuncId)(fn:Func)(hf:Tryz.pinned.checked.prog.funcNamed "ambler/amblerlaw39.SnapTexts" =some f)(hfn:Tryz.pinned.checked.prog.funcs[f]?=some fn):
  true=Tryz.pinned.checked.prog.looks []∧∀(j:Nat) t,fn.params[j]?=some t→Tryz.pinned.checked.prog.wantsStandIn t=false:=by
 obtain rfl:f=3 :=Option.some.inj ((show Tryz.prog.funcNamed "ambler/amblerlaw39.SnapTexts" =some 3 by kernel_rfl).symm.trans hf)|>.symm
 obtain rfl:fn=Tryz.f3 :=(Option.some.inj (Tryz.func3.symm.trans hfn)).symm;refine⟨by kernel_rfl,fun j t ht=> ?_⟩;rw[Tryz.params3]at ht;have h:=Array.mem_of_getElem? ht;simp only[List.mem_toArray,List.mem_cons,List.not_mem_nil,or_false]at h;rcases h with rfl|rfl
 ·exact(show Tryz.prog.wantsStandIn 22 =false by kernel_rfl)
 ·exact(show Tryz.prog.wantsStandIn 9 =false by kernel_rfl)
theorem card:Rows.SnapTextsCardSaid:=
 Claim7.holds_tied_plain_at .later [] _ _ _ _ said (fun _ h=>by cases h) (by kernel_rfl) (fun _ h=>by cases h) snapTexts_row_tie rfl ⟨rfl,rfl⟩ (by kernel_rfl) rfl plain (by kernel_rfl)
#print axioms card
end Go.Proofs.YtjfgpnapccdnlaaGreatDoor.p39d
