/- SliceEnds: the law's row and its tied card. -/
import Derived.Test.YtkddpchpcepjgaaGreatDoorReadU
import Derived.Test.YtkddpchpcepjgaaGreatDoorCards
import Derived.Test.YtkddpchpcepjgaaGreatDoorTie
import Derived.Lay
namespace Go.Proofs.YtkddpchpcepjgaaGreatDoor.p38e
set_option maxRecDepth 100000
open Go.ChangeShapes Go.WideShapes Go.ChangeAt Go.RowKit Go.Deep cu uq
theorem own:ownKnob Tryz.prog.godebug=none:=by kernel_rfl
theorem laidOut:laidOutB Tryz.prog=true:=by kernel_rfl
theorem agV:∀k,k<16->∃n text,Rows.sliceEndsRow.laid[1+k]?=some (n,afx text)/\Tryz.prog.globalNamed n=some (gE (k+1))/\(Tryz.prog.globals[gE (k+1)]?).map (·.type)=some 29
 |0,_=>⟨_,_,rfl,by kernel_rfl,by kernel_rfl⟩|1,_=>⟨_,_,rfl,by kernel_rfl,by kernel_rfl⟩|2,_=>⟨_,_,rfl,by kernel_rfl,by kernel_rfl⟩|3,_=>⟨_,_,rfl,by kernel_rfl,by kernel_rfl⟩|4,_=>⟨_,_,rfl,by kernel_rfl,by kernel_rfl⟩|5,_=>⟨_,_,rfl,by kernel_rfl,by kernel_rfl⟩|6,_=>⟨_,_,rfl,by kernel_rfl,by kernel_rfl⟩|7,_=>⟨_,_,rfl,by kernel_rfl,by kernel_rfl⟩|8,_=>⟨_,_,rfl,by kernel_rfl,by kernel_rfl⟩|9,_=>⟨_,_,rfl,by kernel_rfl,by kernel_rfl⟩|10,_=>⟨_,_,rfl,by kernel_rfl,by kernel_rfl⟩|11,_=>⟨_,_,rfl,by kernel_rfl,by kernel_rfl⟩|12,_=>⟨_,_,rfl,by kernel_rfl,by kernel_rfl⟩|13,_=>⟨_,_,rfl,by kernel_rfl,by kernel_rfl⟩|14,_=>⟨_,_,rfl,by kernel_rfl,by kernel_rfl⟩|15,_=>⟨_,_,rfl,by kernel_rfl,by kernel_rfl⟩
 |_+16,h=>absurd h (by omega)
theorem afy {W:World}(h:laidMet Tryz.prog Rows.sliceEndsRow.laid W):∃E,Env W E W/\eU E W:=by
 obtain⟨E,hE⟩:=La h 1 agV;have ht:=Lib.tabIs_of_head (P:=Tryz.prog) (g:=16) (t:=327) (e:=5) (n:=64) (zs:=agU) (by kernel_rfl) (by kernel_rfl) (by kernel_rfl) Tryz.underlying5 (by kernel_rfl) (by kernel_rfl) h;refine⟨E,⟨Below.refl _ _,hE.core,λi hi=> ?_⟩,hE⟩
 ·match i,hi with
  |0,_=>exact ht.cell (by kernel_rfl) _ (by decide)
  |1,_=>exact ht.cell (by kernel_rfl) _ (by decide)
  |2,_=>exact ht.cell (by kernel_rfl) _ (by decide)
  |3,_=>exact ht.cell (by kernel_rfl) _ (by decide)
  |4,_=>exact ht.cell (by kernel_rfl) _ (by decide)
  |5,_=>exact ht.cell (by kernel_rfl) _ (by decide)
  |6,_=>exact ht.cell (by kernel_rfl) _ (by decide)
  |7,_=>exact ht.cell (by kernel_rfl) _ (by decide)
theorem contract (H:Type)(enc:TypeId×Value->H)(W:World)(base:Nat)(args:Array Value)(ds gs:List (DataW H))(before:List MemPlace)
  (hval:∀(j:Nat) t v,Tryz.f3.params[j]?=some t->args[j]?=some v->Value.okWide Tryz.prog W .any base t v)
  (hW:DataW.Whole enc Tryz.prog Tryz.f3.params.toList Rows.sliceEndsSpec.vars false W args.toList ds gs before) (hL:laidMetH Tryz.prog Rows.sliceEndsRow.laid W):
  Calls Tryz.prog 3 args W λe W'=>∃v,e= .returned v/\Rows.sliceEndsSpec.post enc Tryz.prog Tryz.f3 false true false false W args v W':=by
 have hW':=hW;obtain⟨p,q,hA0,hV,rfl,hfz,hnd⟩:=hW;have hA:DataW.TrodAll enc Tryz.prog W 0 (λ_=>true) true Tryz.f3.params.toList args.toList ds p:=hA0;rw[Tryz.params3]at hA hval;obtain⟨v0,vs0,d0,ds0,p0,q0,hargs,rfl,rfl,h0,r0⟩:=trodAll_cons hA;obtain⟨v1,vs1,d1,ds1,p1,q1,ag0,rfl,rfl,h1,r1⟩:=trodAll_cons r0;obtain⟨v2,vs2,d2,ds2,p2,q2,ag1,rfl,rfl,h2,r2⟩:=trodAll_cons r1;obtain⟨rfl,rfl,rfl⟩:=trodAll_nil r2
 obtain rfl:args= #[v0,v1,v2]:=by cases args;simp_all
 obtain⟨rfl,rfl⟩:=trodVars_none hV;have h0k:=h0;have h1k:=h1;have h2k:=h2;obtain⟨k0,m0,i0,rfl⟩:=ab5 (hval 0 23 v0 rfl rfl) h0;obtain⟨A,n,c,l,rfl,hcap,hR,hwf⟩:=ab3 (hval 1 24 v1 rfl rfl) h1
 obtain rfl:l.length=n:=by have:=hR.1;rw[dZ]at this;omega
 obtain⟨B,nk,d,ks,rfl,_,hK⟩:=Zm Tryz.underlying25 Tryz.underlying37 (by kernel_rfl) (hval 2 25 v2 rfl rfl) h2
 obtain rfl:ks.length=nk:=by simpa using hK.1
 clear hA0;simp only[yy]at hW';obtain⟨E,hE,agW⟩:=afy hL;have hlt:∀x∈p0++(p1++p2),x.block<W.heap.size:=λx hx=>hW'.lt x hx;refine(afs k0 m0 i0 (c:=c) (d:=d) hR hK hwf hE agW).mono λe W' ⟨he,hb⟩=> ?_;subst he
 exact⟨_,rfl,Oc (pa:=p0++(p1++p2)) (pv:=[]) hW' (λ_ _ _=>trodAll_cons_mk (shut_bool Tryz.underlying4 _) trodAll_mk0)
  (λsp hsp=>by
   have:=trodAll_cons_mk (WideElems.Trod_stays (sp':=sp) laidOut (by kernel_rfl) (of_decide_eq_true (by kernel_rfl)) h0k (λx hx=>hb.same (hlt x (by simp[hx]))) (λx hx=>hsp x (by simp[hx]))) (trodAll_cons_mk (WideElems.Trod_stays (sp':=sp) laidOut (by kernel_rfl) (of_decide_eq_true (by kernel_rfl)) h1k (λx hx=>hb.same (hlt x (by simp[hx]))) (λx hx=>hsp x (by simp[hx]))) (trodAll_cons_mk (WideElems.Trod_stays (sp':=sp) laidOut (by kernel_rfl) (of_decide_eq_true (by kernel_rfl)) h2k (λx hx=>hb.same (hlt x (by simp[hx]))) (λx hx=>hsp x (by simp[hx]))) trodAll_mk0));simp only[yy]at this
   exact this)
  (λ_ _=>rfl) (by simp)
  hb (ok_one (by kernel_rfl) rfl (okWide_bool_mk Tryz.underlying4 _))⟩
theorem lifted (os:Os)(started:os.Started)(H:Type)(enc:TypeId×Value->H):
  ReturnsInHanded {} Tryz.checked os 3 .any (λw args=>(Rows.sliceEndsSpec.pre enc Tryz.prog Tryz.f3 [] false w args/\laidMetH Tryz.prog Rows.sliceEndsRow.laid w)/\sizedMet enc Tryz.prog Tryz.f3 (OpenSpec.ofChange Rows.sliceEndsSpec) false w args)
   (Rows.sliceEndsSpec.post enc Tryz.prog Tryz.f3 false true false false):=by
 refine Sk (C:=Tryz.checked) (X:=λw _=>laidMetH Tryz.prog Rows.sliceEndsRow.laid w) (λ_ _ _ hh h=>h.of_heap hh) own started (by kernel_rfl) Tryz.func3
  (ChangeSpec.witness_shaped (enc:=enc) (C:=Tryz.checked) (os:=os) (X:=λw _=>laidMetH Tryz.prog Rows.sliceEndsRow.laid w) false (World.laidAll Tryz.prog os Rows.sliceEndsRow.laid) #[.agg #[.int .i64 0,.int .i64 0,.int .i64 0],.slice none 0 0,.slice none 0 0] 8 (World.laidAll_os _ _ _)
   (World.shaped_of_ZipB (by kernel_rfl) (by kernel_rfl)) (by kernel_rfl) (by kernel_rfl) (by kernel_rfl)
   (by rw[MakeChecks.laidMetH_plain _ _ _ (by kernel_rfl)];exact laidMet_laidAll _ (by kernel_rfl) (by kernel_rfl))) ?_
 intro W base args ds gs before hval hW _ hL _;exact contract H enc W base args ds gs before hval hW hL
theorem said:Rows.SliceEndsSaid:=
 OpenClaim.holds_of_wide 3 Tryz.f3 rfl rfl rfl rfl rfl rfl rfl ⟨rfl,rfl,rfl,rfl,rfl⟩ rfl rfl rfl rfl rfl (by kernel_rfl) Tryz.func3 (by kernel_rfl)
  (of_decide_eq_true (by kernel_rfl)) (by unfold Func.isWrapper;first|(rw[if_pos (by decide+kernel)];kernel_rfl)|(rw[if_neg (by decide+kernel)];exact⟨rfl,rfl⟩))
  (λos started H enc _=>lifted os started H enc)
theorem plain (f:FuncId)(fn:Func)(hf:Tryz.pinned.checked.prog.funcNamed "ambler/amblerlaw38.SliceEnds" =some f)(hfn:Tryz.pinned.checked.prog.funcs[f]?=some fn):
  true=Tryz.pinned.checked.prog.looks []/\∀(j:Nat) t,fn.params[j]?=some t->Tryz.pinned.checked.prog.wantsStandIn t=false:=by
 obtain rfl:f=3 :=QP ((show Tryz.prog.funcNamed "ambler/amblerlaw38.SliceEnds" =some 3 by kernel_rfl).symm.trans hf)|>.symm
 obtain rfl:fn=Tryz.f3 :=(QP (Tryz.func3.symm.trans hfn)).symm;refine⟨by kernel_rfl,λj t ht=> ?_⟩;rw[Tryz.params3]at ht;have h:=Array.mem_of_getElem? ht;simp only[List.mem_toArray,zt,Q1,XS]at h;rcases h with rfl|rfl|rfl
 ·exact(show Tryz.prog.wantsStandIn 23 =false by kernel_rfl)
 ·exact(show Tryz.prog.wantsStandIn 24 =false by kernel_rfl)
 ·exact(show Tryz.prog.wantsStandIn 25 =false by kernel_rfl)
theorem card:Rows.SliceEndsCardSaid:=
 Claim7.holds_tied_plain_at .later [] _ _ _ _ said (λ_ h=>by cases h) (by kernel_rfl) (λ_ h=>by cases h) sliceEnds_row_tie rfl ⟨rfl,rfl⟩ (by kernel_rfl) rfl plain (by kernel_rfl)
#print axioms card
end Go.Proofs.YtkddpchpcepjgaaGreatDoor.p38e
