/- FmapOrder: whatever the list of floats, the law answers true, and it reads as it read. No condition but the row's own. -/
import Derived.Test.YtflbmgpmnocnbaaGreatDoorLaw28b
import Derived.Test.YtflbmgpmnocnbaaGreatDoorLaid2
import Derived.Deep.Strs
import Derived.OpenShut
import Derived.Carry
namespace Go.Proofs.YtflbmgpmnocnbaaGreatDoor.p28b
set_option maxRecDepth 100000
open Go.ChangeShapes Go.WideShapes Go.ChangeAt Go.RowKit Go.Deep AmC AmF
def db64:List Int:=[0,1,56,2,57,49,28,3,61,58,42,50,38,29,17,4,62,47,59,36,45,43,51,22,53,39,33,30,24,18,12,5,63,55,48,27,60,41,37,16,46,35,44,21,52,32,23,11,54,26,40,15,34,20,31,10,25,14,19,9,13,8,7,6]
theorem own:ownKnob Tryz.prog.godebug=none:=by kernel_rfl
theorem laidOut:laidOutB Tryz.prog=true:=by kernel_rfl
section
variable {H : Type} {enc : TypeId × Value → H} {w : World} {base : Nat} {spare : Nat → Bool} {held : Bool} {fuel : Nat}
theorem trod_float {P:Program}{t:TypeId}{k:FloatKind}{cs:List Value}{x:DataW H×List MemPlace}(ht:P.underlying t=some (.float k))(h:DataW.trod enc P w base spare held fuel t cs=some x):∃b,cs=[.float k b]∧x=(.lit (.float k b),[])∧(Lit.float k b).wf=true:=by
 cases fuel with
 |zero=>simp[DataW.trod]at h
 |succ n=>
  unfold DataW.trod at h;rw[ht]at h
  split at h<;>simp_all
theorem float_trod {cs:List Value}{x:DataW H×List MemPlace}(h:DataW.trod enc Tryz.prog w base spare held fuel 31 cs=some x):∃b,cs=[.float .f64 b]∧b<18446744073709551616:=by
 obtain⟨b,rfl,_,hw⟩:=trod_float Tryz.underlying31 h;refine⟨b,rfl, ?_⟩
 have:b<2^64:=by simpa[Lit.wf]using hw
 have e:(2:Nat)^64=18446744073709551616:=by decide
 rw[←e];exact this
theorem open_floats {v:Value}{d:DataW H}{p:List MemPlace}(ho:Value.okWide Tryz.prog w .any base 22 v)(h:DataW.Trod enc Tryz.prog w 0 (fun _=>true) true 22 v d p):
  ∃A n c,∃l:List Nat,v= .slice A n c∧n≤c∧Reads w w.heap.size 1 A n (l.map fltV)∧∀x∈l,x<18446744073709551616:=by
 obtain⟨a0,len0,cap0,rfl⟩:=okWide_slice Tryz.underlying22 ho;obtain⟨fuel,hf⟩:=h
 have hc1:Tryz.prog.cellsOf 31 =1:=by kernel_rfl
 rcases open_slice Tryz.underlying22 hf with⟨hcs,_⟩|⟨a,len,cap,m,k,D,Pl,hcs,_,hl,_,hm,_,hx⟩
 ·simp[Value.cells]at hcs;obtain⟨rfl,rfl,rfl⟩:=hcs;refine⟨none,0,0,[],rfl,Nat.le_refl _, ?_,fun _ h=>absurd h List.not_mem_nil⟩;exact Reads.none_
 ·simp[Value.cells]at hcs;obtain⟨rfl,rfl,rfl⟩:=hcs;simp only[if_true]at hm;rw[hc1]at hx
  obtain⟨O,hO⟩:=choose_lt (α:=Nat) (n:=len0) (p:=fun i b=>b<18446744073709551616∧w.cell? (a.add i)=some (.float .f64 b)) (fun i hi=>by
   obtain⟨cs',h1,h2⟩:=hx i (by omega);obtain⟨_,_,hcell⟩:=World.cells?_some h1;obtain⟨b,rfl,hw⟩:=float_trod h2;have:=hcell 0 (by omega);rw[Nat.mul_one]at this;refine⟨b,hw, ?_⟩;obtain⟨ab,ao,asp⟩:=a
   have e:((⟨ab,ao,asp⟩:Addr).add i).add 0=(⟨ab,ao,asp⟩:Addr).add i:=by
    unfold Addr.add
    split<;>simp_all
   rw[e]at this
   simpa using this)
  refine⟨some a,len0,cap0,(List.range len0).map O,rfl,hl,⟨by simp,fun hn=> ?_⟩,fun o ho=> ?_⟩
  ·obtain⟨b,off,spot⟩:=a;have h00:=(hO 0 (by omega)).2
   have hspot:spot=none:=by simpa[Addr.add]using World.cell?_spot h00
   subst hspot;refine⟨b,off,rfl,by simpa[Addr.add]using World.block_lt_of_cell? w _ h00,fun j u hu=> ?_⟩
   have hj:j<len0:=by have:=(List.getElem?_eq_some_iff.1 hu).1;simpa using this
   have h1:=(hO j (by omega)).2;rw[add_plain]at h1;rw[h1,←hu];simp[hj,fltV]
  ·obtain⟨i,hi,rfl⟩:=List.mem_map.1 ho;exact(hO i (by simpa using hi)).1
end
theorem lib_in {W:World}(h:laidMet Tryz.prog Rows.fmapOrderRow.laid W):∃E,Env W E W∧ErrAt E W 6∧ErrAt E W 12:=by
 obtain⟨a1,h1⟩:=err_cell (g:=3) h 1 rfl (by kernel_rfl) (by kernel_rfl);obtain⟨a2,h2⟩:=err_cell (g:=5) h 2 rfl (by kernel_rfl) (by kernel_rfl);obtain⟨a5,h5⟩:=err_cell (g:=11) h 5 rfl (by kernel_rfl) (by kernel_rfl);obtain⟨a6,h6⟩:=err_cell (g:=6) h 6 rfl (by kernel_rfl) (by kernel_rfl);obtain⟨a12,h12⟩:=err_cell (g:=1) h 10 rfl (by kernel_rfl) (by kernel_rfl);have ht:=Lib.tabIs_of_head (P:=Tryz.prog) (g:=13) (t:=316) (e:=5) (n:=64) (zs:=db64) (by kernel_rfl) (by kernel_rfl) (by kernel_rfl) Tryz.underlying5 (by kernel_rfl) (by kernel_rfl) h;refine⟨fun k=>if k=1 then a1 else if k=2 then a2 else if k=5 then a5 else if k=6 then a6 else a12,⟨Below.refl _ _,⟨fun k hk=> ?_⟩,fun i hi=> ?_⟩,h6,h12⟩
 ·rcases hk with rfl|rfl|rfl
  ·exact h1
  ·exact h2
  ·exact h5
 ·match i,hi with
  |0,_=>exact ht.cell (by kernel_rfl) _ (by decide)
  |1,_=>exact ht.cell (by kernel_rfl) _ (by decide)
  |2,_=>exact ht.cell (by kernel_rfl) _ (by decide)
  |3,_=>exact ht.cell (by kernel_rfl) _ (by decide)
  |4,_=>exact ht.cell (by kernel_rfl) _ (by decide)
  |5,_=>exact ht.cell (by kernel_rfl) _ (by decide)
  |6,_=>exact ht.cell (by kernel_rfl) _ (by decide)
  |7,_=>exact ht.cell (by kernel_rfl) _ (by decide)
theorem contract (H:Type)(enc:TypeId×Value→H)(W:World)(base:Nat)(args:Array Value)(ds gs:List (DataW H))(before:List MemPlace)
  (hval:∀(j:Nat) t v,Tryz.f3.params[j]?=some t→args[j]?=some v→Value.okWide Tryz.prog W .any base t v)
  (hW:DataW.Whole enc Tryz.prog Tryz.f3.params.toList Rows.fmapOrderSpec.vars false W args.toList ds gs before) (hL:laidMetH Tryz.prog Rows.fmapOrderRow.laid W):
  Calls Tryz.prog 3 args W fun e W'=>∃v,e= .returned v∧Rows.fmapOrderSpec.post enc Tryz.prog Tryz.f3 false true false false W args v W':=by
 have hW':=hW;obtain⟨p,q,hA0,hV,rfl,hfz,hnd⟩:=hW;have hA:DataW.TrodAll enc Tryz.prog W 0 (fun _=>true) true Tryz.f3.params.toList args.toList ds p:=hA0;rw[Tryz.params3]at hA hval;obtain⟨v0,vs0,d0,ds0,p0,q0,hargs,rfl,rfl,h0,r0⟩:=trodAll_cons hA;obtain⟨rfl,rfl,rfl⟩:=trodAll_nil r0
 obtain rfl:args= #[v0]:=by cases args;simp_all
 obtain⟨rfl,rfl⟩:=trodVars_none hV;have h0k:=h0;obtain⟨B,nk,d,fs,rfl,_,hR,hfs⟩:=open_floats (hval 0 22 v0 rfl rfl) h0;clear hA0;simp only[List.append_nil]at hW';have hlt:∀x∈p0,x.block<W.heap.size:=fun x hx=>hW'.lt x hx;obtain⟨E,hE,h6,h12⟩:=lib_in hL;refine(law_order28 B nk d fs W hE h6 h12 (by simpa using hR.1) hfs hR).mono fun e W' ⟨he,hb⟩=> ?_;subst he
 exact⟨_,rfl,post_of_below (pa:=p0) (pv:=[]) hW' (fun _ _ _=>trodAll_cons_mk (shut_bool Tryz.underlying4 _) trodAll_mk0)
  (fun sp hsp=>by
   have:=trodAll_cons_mk (WideElems.Trod_stays (sp':=sp) laidOut (by kernel_rfl) (of_decide_eq_true (by kernel_rfl)) h0k (fun x hx=>hb.same (hlt x hx)) (fun x hx=>hsp x hx)) trodAll_mk0;simp only[List.append_nil]at this
   exact this)
  (fun _ _=>rfl) (by simp)
  hb (ok_one (by kernel_rfl) rfl (okWide_bool_mk Tryz.underlying4 _))⟩
end Go.Proofs.YtflbmgpmnocnbaaGreatDoor.p28b
