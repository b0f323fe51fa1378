/- ReportLines: the law's row and its tied card. -/
import Derived.Test.YtfbljmcjadfkoaaGreatDoorLaw40
import Derived.Test.YtfbljmcjadfkoaaGreatDoorLaid2
import Derived.Deep.Strs
import Derived.OpenShut
import Derived.Carry
import Derived.Test.YtfbljmcjadfkoaaGreatDoorCards
import Derived.Test.YtfbljmcjadfkoaaGreatDoorTie
import Derived.Lay
namespace Go.Proofs.YtfbljmcjadfkoaaGreatDoor.p40
set_option maxRecDepth 100000
set_option maxHeartbeats 40000000
open Go.ChangeShapes Go.WideShapes Go.ChangeAt Go.RowKit Go.Deep AmC AmL AmF AmD AmS
variable {b0 n : Nat} {t : TypeId} {cs : List Value} {p : List MemPlace} {W : World} {r : Reach} {v : Value}
def db64:List Int:=[0,1,56,2,57,49,28,3,61,58,42,50,38,29,17,4,62,47,59,36,45,43,51,22,53,39,33,30,24,18,12,5,63,55,48,27,60,41,37,16,46,35,44,21,52,32,23,11,54,26,40,15,34,20,31,10,25,14,19,9,13,8,7,6]
theorem own:ownKnob Tryz.prog.godebug=none:=by kernel_rfl
theorem laidOut:laidOutB Tryz.prog=true:=by kernel_rfl
section
variable {H : Type} {enc : TypeId × Value → H} {P : Program} {w : World} {base : Nat} {spare : Nat → Bool} {held : Bool} {fuel : Nat}
theorem strs_cells {e:TypeId}(ht:P.underlying t=some (.array n e))(he:P.underlying e=some .string)(hc:P.cellsOf e=1){l:List (List UInt8)}(h:DataW.trod enc P w base spare held fuel t cs=some (.agg (l.map fun b=>DataW.lit (Lit.string b)),p)):∀(i:Nat) (b:List UInt8),l[i]?=some b→cs[i]?=some (Value.string ⟨b.toArray⟩):=by
 obtain⟨xs,m,rfl,hx,hl,hxs,hf⟩:=DataW.trod_array ht h;intro i b hb
 have hx1:xs.map (·.1)=l.map fun b=>(DataW.lit (Lit.string b):DataW H):=by
  have:=congrArg Prod.fst hx;simp only at this
  injection this with this
  exact this.symm
 have hlen:xs.length=l.length:=by have:=congrArg List.length hx1;simpa using this
 have hi:i<l.length:=(List.getElem?_eq_some_iff.1 hb).1;have h1:=hf i (by omega);rw[hc,Nat.mul_one,List.getElem?_eq_getElem (by omega)]at h1;obtain⟨s,hs1,hs2,_⟩:=DataW.trod_string he h1
 have h2:(xs.map (·.1))[i]?=some (DataW.lit (Lit.string b)):=by rw[hx1,List.getElem?_map,hb];rfl
 rw[List.getElem?_map,List.getElem?_eq_getElem (by omega),hs2]at h2;simp only[Option.map_some,Option.some.injEq]at h2
 injection h2 with h2
 injection h2 with h2
 have h3:=congrArg (·[0]?) hs1;simp only[List.getElem?_take,List.getElem?_drop,List.getElem?_cons_zero]at h3;rw[if_pos (by omega),Nat.add_zero]at h3;rw[h3,←h2]
end
theorem names_laid {l:List (String×DataW Unit)}(h:laidMet Tryz.prog l W)(p:Nat)(hl:l[p]?=some ("ambler/script.names",.agg (names.map fun b=>DataW.lit (Lit.string b)))):
  ∀i,i<9→W.cell? ⟨0,i,none⟩=some (strV (names.getD i [])):=by
 obtain⟨ps,hv,hnd,hrows⟩:=h;obtain⟨pl,e1,e2,e3⟩:=laid_parts l ps hv;obtain⟨g',t,cs,fuel,p',h1,h2,h3,h4,h5⟩:=e3 _ _ _ hl
 obtain rfl:=Option.some.inj ((show Tryz.prog.globalNamed "ambler/script.names" =some 0 by kernel_rfl).symm.trans h1)
 obtain rfl:=Option.some.inj ((show(Tryz.prog.globals[0]?).map (·.type)=some 98 by kernel_rfl).symm.trans h2);intro i hi
 have hb:names[i]?=some (names.getD i []):=by
  have h9:names.length=9:=rfl
  have:i<names.length:=by rw [h9];exact hi
  simp[List.getElem?_eq_getElem this,List.getD_eq_getElem?_getD]
 have:=strs_cells Tryz.underlying98 Tryz.underlying9 (by kernel_rfl) h4 i _ hb;rw[World.var?_cell h1 h3 i];simpa[strV]using this
section
variable {H : Type} {enc : TypeId × Value → H} {w : World} {base : Nat} {spare : Nat → Bool} {held : Bool} {fuel : Nat}
theorem cfg_trod {x:DataW H×List MemPlace}(h:DataW.trod enc Tryz.prog w base spare held fuel 23 cs=some x):∃a b c:Int,cs=[.int .i64 a,.int .i64 b,.int .i64 c]:=by
 obtain⟨xs,m,rfl,rfl,hl,hxs,hf⟩:=DataW.trod_struct Tryz.underlying23 h
 have hc1:Tryz.prog.cellsOf 3 =1:=by kernel_rfl
 have hc3:Tryz.prog.cellsOf 23 =3:=by kernel_rfl
 rw[hc3]at hl;have hx3:xs.length=3:=hxs;have f0:DataW.trod enc Tryz.prog w base spare held m 3 ((cs.drop 0).take (Tryz.prog.cellsOf 3))=xs[0]?:=hf 0 _ rfl;have f1:DataW.trod enc Tryz.prog w base spare held m 3 ((cs.drop 1).take (Tryz.prog.cellsOf 3))=xs[1]?:=hf 1 _ rfl;have f2:DataW.trod enc Tryz.prog w base spare held m 3 ((cs.drop 2).take (Tryz.prog.cellsOf 3))=xs[2]?:=hf 2 _ rfl;rw[hc1]at f0 f1 f2;rw[List.getElem?_eq_getElem (by omega)]at f0 f1 f2;obtain⟨n0,q0,_,w0⟩:=DataW.trod_int Tryz.underlying3 f0;obtain⟨n1,q1,_,w1⟩:=DataW.trod_int Tryz.underlying3 f1;obtain⟨n2,q2,_,w2⟩:=DataW.trod_int Tryz.underlying3 f2;refine⟨n0,n1,n2, ?_⟩
 match cs,hl with
 | [a,b,c],_=>
  simp at q0 q1 q2;simp[q0,q1,q2]
theorem open_cfg {d:DataW H}(hv:Value.okWide Tryz.prog w r b0 23 v)(h:DataW.Trod enc Tryz.prog w base spare held 23 v d p):∃k m i:Int,v= .agg #[.int .i64 k,.int .i64 m,.int .i64 i]:=by
 obtain⟨cs,rfl,hsz⟩:=okWide_struct Tryz.underlying23 hv;obtain⟨fuel,hf⟩:=h;obtain⟨a,b,c,hc⟩:=cfg_trod (cs:=cs.toList) hf;refine⟨a,b,c, ?_⟩;congr 1;apply Array.toList_inj.1;rw[hc]
theorem ints_trod (ht:Tryz.prog.underlying t=some (.array n 3))(hc:Tryz.prog.cellsOf t=n){x:DataW H×List MemPlace}(h:DataW.trod enc Tryz.prog w base spare held fuel t cs=some x):
  cs.length=n∧∀i,i<n→∃z,cs[i]?=some (intV z)∧i64B z:=by
 obtain⟨xs,m,rfl,hx,hl,hxs,hf⟩:=DataW.trod_array ht h;rw[hc]at hl;refine⟨hl,fun i hi=> ?_⟩;have h1:=hf i hi;rw[show Tryz.prog.cellsOf 3 =1 by kernel_rfl,Nat.mul_one,List.getElem?_eq_getElem (by omega)]at h1;obtain⟨z,q,_,hw⟩:=DataW.trod_int Tryz.underlying3 h1;refine⟨z, ?_,Go.bounds_i64 hw⟩;have h3:=congrArg (·[0]?) q;simp only[List.getElem?_take,List.getElem?_drop,List.getElem?_cons_zero]at h3;rw[if_pos (by omega),Nat.add_zero]at h3;exact h3
theorem nums_trod {x:DataW H×List MemPlace}(hf:DataW.trod enc Tryz.prog w 0 (fun _=>true) true fuel 26 cs=some x):
  ∃(A:Option Addr) (c:Nat) (l:List Int),cs=[.slice A l.length c]∧Reads w w.heap.size 1 A l.length (l.map intV):=by
 have hc1:Tryz.prog.cellsOf 3 =1:=by kernel_rfl
 rcases open_slice Tryz.underlying26 hf with⟨hcs,_⟩|⟨a,len,cap,m,kx,D,Pl,hcs,_,hl,_,hm,_,hx⟩
 ·exact⟨none,0,[],hcs,Reads.none_⟩
 ·simp only[if_true]at hm;rw[hc1]at hx
  obtain⟨O,hO⟩:=choose_lt (α:=Int) (n:=len) (p:=fun i b=>b=b∧w.cell? (a.add i)=some (.int .i64 b)) (fun i hi=>by
   obtain⟨cs',h1,h2⟩:=hx i (by omega);obtain⟨_,_,hcell⟩:=World.cells?_some h1;obtain⟨b,rfl,_,hw⟩:=DataW.trod_int Tryz.underlying3 h2;have:=hcell 0 (by omega);rw[Nat.mul_one]at this;refine⟨b,rfl, ?_⟩;obtain⟨ab,ao,asp⟩:=a
   have e:((⟨ab,ao,asp⟩:Addr).add i).add 0=(⟨ab,ao,asp⟩:Addr).add i:=by
    unfold Addr.add
    split<;>simp_all
   rw[e]at this
   simpa using this)
  refine⟨some a,cap,(List.range len).map O,by simpa using hcs,⟨by simp,fun hn=> ?_⟩⟩;simp only[List.length_map,List.length_range]at hn;obtain⟨b,off,spot⟩:=a;have h00:=(hO 0 (by omega)).2
  have hspot:spot=none:=by simpa[Addr.add]using World.cell?_spot h00
  subst hspot;refine⟨b,off,rfl,by simpa[Addr.add]using World.block_lt_of_cell? w _ h00,fun j u hu=> ?_⟩
  have hj:j<len:=by have:=(List.getElem?_eq_some_iff.1 hu).1;simpa using this
  have h1:=(hO j (by omega)).2;rw[add_plain]at h1;rw[h1,←hu];simp[intV,hj]
def numsC (l r:List Int)(Ax:Option Addr)(n c:Nat)(Ay:Option Addr)(m d:Nat)(no:Bool):List Value:=l.map intV++r.map intV++[.slice Ax n c,.slice Ay m d,.bool no]
theorem cells_of (hl:cs.length=n)(h:∀i,i<n→∃z,cs[i]?=some (intV z)∧i64B z):∃l:List Int,l.length=n∧cs=l.map intV∧∀z∈l,i64B z:=by
 induction n generalizing cs with
 |zero=>exact⟨[],rfl,by cases cs with|nil=>rfl|cons _ _=>simp at hl,fun _ h=>absurd h List.not_mem_nil⟩
 |succ n ih=>
  match cs,hl with
  |v::cs,hl=>
   obtain⟨l,h1,h2,h3⟩:=ih (cs:=cs) (by simpa using hl) (fun i hi=>by simpa using h (i+1) (by omega));obtain⟨z,q1,q2⟩:=h 0 (by omega);simp at q1;refine⟨z::l,by simp[h1],by rw[q1,h2];rfl,fun y hy=> ?_⟩;rcases List.mem_cons.1 hy with rfl|hy
   ·exact q2
   ·exact h3 y hy
theorem numbers_trod {x:DataW H×List MemPlace}(h:DataW.trod enc Tryz.prog w 0 (fun _=>true) true fuel 28 cs=some x):
  ∃(l r:List Int) (Ax Ay:Option Addr) (c d:Nat) (xs ys:List Int) (no:Bool),l.length=8∧r.length=7∧cs=numsC l r Ax xs.length c Ay ys.length d no∧(∀z∈l,i64B z)∧(∀z∈r,i64B z)∧Reads w w.heap.size 1 Ax xs.length (xs.map intV)∧Reads w w.heap.size 1 Ay ys.length (ys.map intV):=by
 obtain⟨xs0,m,rfl,rfl,hl,hxs,hf⟩:=DataW.trod_struct Tryz.underlying28 h;have hx5:xs0.length=5:=hxs;rw[show Tryz.prog.cellsOf 28 =18 by kernel_rfl]at hl;have f0:DataW.trod enc Tryz.prog w 0 (fun _=>true) true m 24 ((cs.drop 0).take (Tryz.prog.cellsOf 24))=xs0[0]?:=hf 0 _ rfl;have f1:DataW.trod enc Tryz.prog w 0 (fun _=>true) true m 25 ((cs.drop 8).take (Tryz.prog.cellsOf 25))=xs0[1]?:=hf 1 _ rfl;have f2:DataW.trod enc Tryz.prog w 0 (fun _=>true) true m 26 ((cs.drop 15).take (Tryz.prog.cellsOf 26))=xs0[2]?:=hf 2 _ rfl;have f3:DataW.trod enc Tryz.prog w 0 (fun _=>true) true m 26 ((cs.drop 16).take (Tryz.prog.cellsOf 26))=xs0[3]?:=hf 3 _ rfl;have f4:DataW.trod enc Tryz.prog w 0 (fun _=>true) true m 4 ((cs.drop 17).take (Tryz.prog.cellsOf 4))=xs0[4]?:=hf 4 _ rfl;rw[show Tryz.prog.cellsOf 24 =8 by kernel_rfl]at f0;rw[show Tryz.prog.cellsOf 25 =7 by kernel_rfl]at f1;rw[show Tryz.prog.cellsOf 26 =1 by kernel_rfl]at f2 f3;rw[show Tryz.prog.cellsOf 4 =1 by kernel_rfl]at f4;rw[List.getElem?_eq_getElem (by omega)]at f0 f1 f2 f3 f4;obtain⟨l0,g0⟩:=ints_trod Tryz.underlying24 (by kernel_rfl) f0;obtain⟨l1,g1⟩:=ints_trod Tryz.underlying25 (by kernel_rfl) f1;obtain⟨l,hl8,e0,b0⟩:=cells_of l0 g0;obtain⟨r,hr7,e1,b1⟩:=cells_of l1 g1;obtain⟨Ax,c,xs,e2,hx⟩:=nums_trod f2;obtain⟨Ay,d,ys,e3,hy⟩:=nums_trod f3
 obtain⟨no,e4,_⟩:=DataW.trod_bool Tryz.underlying4 f4;refine⟨l,r,Ax,Ay,c,d,xs,ys,no,hl8,hr7, ?_,b0,b1,hx,hy⟩
 have s0:cs=cs.take 8++((cs.drop 8).take 7++((cs.drop 15).take 1++((cs.drop 16).take 1++(cs.drop 17).take 1))):=by
  have a4:(cs.drop 17).take 1=cs.drop 17:=List.take_of_length_le (by rw[List.length_drop];omega)
  have st:∀n k,(cs.drop n).take k++cs.drop (n+k)=cs.drop n:=fun n k=>by rw[←List.drop_drop];exact List.take_append_drop k _
  rw[a4,st 16 1,st 15 1,st 8 7];exact(List.take_append_drop 8 cs).symm
 rw[s0,show cs.take 8=l.map intV from e0,e1,e2,e3,e4];simp only[numsC,List.append_assoc];rfl
theorem list8 {l:List Int}(h:l.length=8):∃c0 c1 c2 c3 c4 c5 c6 c7,l=[c0,c1,c2,c3,c4,c5,c6,c7]:=by
 match l,h with
 | [a0,a1,a2,a3,a4,a5,a6,a7],_=>exact⟨a0,a1,a2,a3,a4,a5,a6,a7,rfl⟩
theorem list7 {l:List Int}(h:l.length=7):∃c0 c1 c2 c3 c4 c5 c6,l=[c0,c1,c2,c3,c4,c5,c6]:=by
 match l,h with
 | [a0,a1,a2,a3,a4,a5,a6],_=>exact⟨a0,a1,a2,a3,a4,a5,a6,rfl⟩
theorem open_numbers {d:DataW H}(hv:Value.okWide Tryz.prog w r b0 28 v)(h:DataW.Trod enc Tryz.prog w 0 (fun _=>true) true 28 v d p):
  ∃(l r:List Int) (Ax Ay:Option Addr) (c d:Nat) (xs ys:List Int) (no:Bool),l.length=8∧r.length=7∧v= .agg (numsC l r Ax xs.length c Ay ys.length d no).toArray∧(∀z∈l,i64B z)∧(∀z∈r,i64B z)∧Reads w w.heap.size 1 Ax xs.length (xs.map intV)∧Reads w w.heap.size 1 Ay ys.length (ys.map intV):=by
 obtain⟨cs,rfl,hsz⟩:=okWide_struct Tryz.underlying28 hv;obtain⟨fuel,hf⟩:=h;obtain⟨l,r,Ax,Ay,c,d,xs,ys,no,h1,h2,h3,h4⟩:=numbers_trod (cs:=cs.toList) hf;refine⟨l,r,Ax,Ay,c,d,xs,ys,no,h1,h2, ?_,h4⟩;congr 1;apply Array.toList_inj.1;rw[h3]
end
theorem gPow:Tryz.prog.globalNamed "internal/strconv.uint64pow10" =some 12 :=by kernel_rfl
theorem lib_in (h:laidMet Tryz.prog Rows.reportLinesRow.laid W):∃E,Env W E W∧ErrAt E W 3∧ErrAt E W 8∧ErrAt E W 9∧PowIn W∧NamesIn W:=by
 have hd1:=laid_drop 1 _ h;have ht:=Lib.tabIs_of_head (P:=Tryz.prog) (g:=19) (t:=329) (e:=5) (n:=64) (zs:=db64) (by kernel_rfl) (by kernel_rfl) (by kernel_rfl) Tryz.underlying5 (by kernel_rfl) (by kernel_rfl) hd1;have hd2:=laid_drop 2 _ h;have hp:PowIn W:=Lib.tabIs_of_head (P:=Tryz.prog) (g:=12) (t:=227) (e:=72) (n:=20) (zs:=Lib.pow10Tab) gPow (by kernel_rfl) (by kernel_rfl) Tryz.underlying72 (by kernel_rfl) (by kernel_rfl) hd2;refine⟨pickE W,⟨Below.refl _ _,⟨fun k hk=> ?_⟩,fun i hi=> ?_⟩,pickE_at (err_cell (g:=gE 3) h 5 rfl (by kernel_rfl) (by kernel_rfl)),pickE_at (err_cell (g:=gE 8) h 10 rfl (by kernel_rfl) (by kernel_rfl)),pickE_at (err_cell (g:=gE 9) h 11 rfl (by kernel_rfl) (by kernel_rfl)),hp,names_laid h 17 rfl⟩
 ·rcases hk with rfl|rfl|rfl
  ·exact pickE_at (err_cell (g:=gE 1) h 3 rfl (by kernel_rfl) (by kernel_rfl))
  ·exact pickE_at (err_cell (g:=gE 2) h 4 rfl (by kernel_rfl) (by kernel_rfl))
  ·exact pickE_at (err_cell (g:=gE 5) h 7 rfl (by kernel_rfl) (by kernel_rfl))
 ·match i,hi with
  |0,_=>exact ht.cell (by kernel_rfl) _ (by decide)
  |1,_=>exact ht.cell (by kernel_rfl) _ (by decide)
  |2,_=>exact ht.cell (by kernel_rfl) _ (by decide)
  |3,_=>exact ht.cell (by kernel_rfl) _ (by decide)
  |4,_=>exact ht.cell (by kernel_rfl) _ (by decide)
  |5,_=>exact ht.cell (by kernel_rfl) _ (by decide)
  |6,_=>exact ht.cell (by kernel_rfl) _ (by decide)
  |7,_=>exact ht.cell (by kernel_rfl) _ (by decide)
theorem contract (H:Type)(enc:TypeId×Value→H)(W:World)(base:Nat)(args:Array Value)(ds gs:List (DataW H))(before:List MemPlace)(hval:∀(j:Nat) t v,Tryz.f3.params[j]?=some t→args[j]?=some v→Value.okWide Tryz.prog W .any base t v)(hW:DataW.Whole enc Tryz.prog Tryz.f3.params.toList Rows.reportLinesSpec.vars false W args.toList ds gs before)(hL:laidMetH Tryz.prog Rows.reportLinesRow.laid W)(_:W.ShapedOpen Tryz.prog):
  Calls Tryz.prog 3 args W fun e W'=>∃v,e= .returned v∧Rows.reportLinesSpec.post enc Tryz.prog Tryz.f3 false true false false W args v W':=by
 have hW':=hW;obtain⟨p,q,hA0,hV,rfl,hfz,hnd⟩:=hW;have hA:DataW.TrodAll enc Tryz.prog W 0 (fun _=>true) true Tryz.f3.params.toList args.toList ds p:=hA0;rw[Tryz.params3]at hA hval;obtain⟨v0,vs0,d0,ds0,p0,q0,hargs,rfl,rfl,h0,r0⟩:=trodAll_cons hA;obtain⟨v1,vs1,d1,ds1,p1,q1,hargs1,rfl,rfl,h1,r1⟩:=trodAll_cons r0;obtain⟨rfl,rfl,rfl⟩:=trodAll_nil r1
 obtain rfl:args= #[v0,v1]:=by cases args;simp_all
 obtain⟨rfl,rfl⟩:=trodVars_none hV;have h0k:=h0;have h1k:=h1;obtain⟨k0,m0,i0,rfl⟩:=open_cfg (hval 0 23 v0 rfl rfl) h0;obtain⟨l,r,Ax,Ay,ca,cb,xs,ys,no,hl,hr,rfl,b0,b1,hx,hy⟩:=open_numbers (hval 1 28 v1 rfl rfl) h1;obtain⟨c0,c1,c2,c3,c4,c5,c6,c7,rfl⟩:=list8 hl;obtain⟨n0,n1,n2,n3,n4,n5,n6,rfl⟩:=list7 hr;clear hA0;simp only[List.append_nil]at hW';obtain⟨E,hE,h3,h8,h9,hP,hN⟩:=lib_in hL;have hlt:∀x∈p0++p1,x.block<W.heap.size:=fun x hx=>hW'.lt x hx;refine(law_report (w:=W) (ca:=ca) (cb:=cb) k0 m0 i0 c0 c1 c2 c3 c4 c5 c6 c7 n0 n1 n2 n3 n4 n5 n6 xs ys no hx hy b0 b1 (fun W1 hb=>law40_alive ⟨hE.below.trans hb,hE.errs0,hE.tz0⟩ h3 h8 h9 (pow_next hP hb) (names_next hN hb)) hP hN).mono fun e W' ⟨he,hb⟩=> ?_;subst he
 exact⟨_,rfl,post_of_below (pa:=p0++p1) (pv:=[]) hW' (fun _ _ _=>trodAll_cons_mk (shut_bool Tryz.underlying4 _) trodAll_mk0)
  (fun sp hsp=>by
   have:=trodAll_cons_mk (WideElems.Trod_stays (sp':=sp) laidOut (by kernel_rfl) (of_decide_eq_true (by kernel_rfl)) h0k (fun x hx=>hb.same (hlt x (by simp[hx]))) (fun x hx=>hsp x (by simp[hx])))
    (trodAll_cons_mk (WideElems.Trod_stays (sp':=sp) laidOut (by kernel_rfl) (of_decide_eq_true (by kernel_rfl)) h1k (fun x hx=>hb.same (hlt x (by simp[hx]))) (fun x hx=>hsp x (by simp[hx]))) trodAll_mk0)
   simp only[List.append_nil]at this
   exact this)
  (fun _ _=>rfl) (by simp)
  hb (ok_one (by kernel_rfl) rfl (okWide_bool_mk Tryz.underlying4 _))⟩
theorem lifted (os:Os)(started:os.Started)(H:Type)(enc:TypeId×Value→H):
  ReturnsInHanded {} Tryz.checked os 3 .any (fun w args=>(Rows.reportLinesSpec.pre enc Tryz.prog Tryz.f3 [] false w args∧laidMetH Tryz.prog Rows.reportLinesRow.laid w)∧sizedMet enc Tryz.prog Tryz.f3 (OpenSpec.ofChange Rows.reportLinesSpec) false w args)
   (Rows.reportLinesSpec.post enc Tryz.prog Tryz.f3 false true false false):=by
 refine returnsLaid (C:=Tryz.checked) (X:=fun w _=>laidMetH Tryz.prog Rows.reportLinesRow.laid w) (fun _ _ _ hh h=>h.of_heap hh) own started (by kernel_rfl) Tryz.func3
  (ChangeSpec.witness_shaped (enc:=enc) (C:=Tryz.checked) (os:=os) (X:=fun w _=>laidMetH Tryz.prog Rows.reportLinesRow.laid w) false (World.laidAll Tryz.prog os Rows.reportLinesRow.laid) #[.agg #[.int .i64 1,.int .i64 1,.int .i64 1],.agg (#[.int .i64 0,.int .i64 0,.int .i64 0,.int .i64 0,.int .i64 0,.int .i64 0,.int .i64 0,.int .i64 0,.int .i64 0,.int .i64 0,.int .i64 0,.int .i64 0,.int .i64 0,.int .i64 0,.int .i64 0,.slice none 0 0,.slice none 0 0,.bool false])] 8 (World.laidAll_os _ _ _)
   (World.shaped_of_ZipB (by kernel_rfl) (by kernel_rfl)) (by kernel_rfl) (by kernel_rfl) (by kernel_rfl)
   (by rw[MakeChecks.laidMetH_plain _ _ _ (by kernel_rfl)];exact laidMet_laidAll _ (by kernel_rfl) (by kernel_rfl))) ?_
 intro W base args ds gs before hval hW _ hL hsh;exact contract H enc W base args ds gs before hval hW hL hsh
theorem closed:joinedFacts Tryz.pinned.checked.prog 3 Tryz.f3 Rows.reportLinesSpec Rows.reportLinesRow=true:=by
 unfold joinedFacts;simp only[Bool.and_eq_true]
 repeat' apply And.intro
 all_goals (as_aux_lemma=>kernel_rfl)
theorem said:Rows.ReportLinesSaid:=
 OpenClaim.holds_of_wide 3 Tryz.f3 rfl rfl rfl rfl rfl rfl rfl ⟨rfl,rfl,rfl,rfl,rfl⟩ rfl rfl rfl rfl rfl (by kernel_rfl) Tryz.func3 closed
  (of_decide_eq_true (by kernel_rfl)) (by unfold Func.isWrapper;first|(rw[if_pos (by decide+kernel)];kernel_rfl)|(rw[if_neg (by decide+kernel)];exact⟨rfl,rfl⟩))
  (fun os started H enc _=>lifted os started H enc)
theorem plain (f:FuncId)(fn:Func)(hf:Tryz.pinned.checked.prog.funcNamed "ambler/amblerlaw40.ReportLines" =some f)(hfn:Tryz.pinned.checked.prog.funcs[f]?=some fn):
  true=Tryz.pinned.checked.prog.looks []∧∀(j:Nat) t,fn.params[j]?=some t→Tryz.pinned.checked.prog.wantsStandIn t=false:=by
 obtain rfl:f=3 :=Option.some.inj ((show Tryz.prog.funcNamed "ambler/amblerlaw40.ReportLines" =some 3 by kernel_rfl).symm.trans hf)|>.symm
 obtain rfl:fn=Tryz.f3 :=(Option.some.inj (Tryz.func3.symm.trans hfn)).symm;refine⟨by kernel_rfl,fun j t ht=> ?_⟩;rw[Tryz.params3]at ht;have h:=Array.mem_of_getElem? ht;simp only[List.mem_toArray,List.mem_cons,List.not_mem_nil,or_false]at h;rcases h with rfl|rfl
 ·exact(show Tryz.prog.wantsStandIn 23 =false by kernel_rfl)
 ·exact(show Tryz.prog.wantsStandIn 28 =false by kernel_rfl)
theorem card:Rows.ReportLinesCardSaid:=
 Claim7.holds_tied_plain_at .later [] _ _ _ _ said (fun _ h=>by cases h) (by kernel_rfl) (fun _ h=>by cases h) reportLines_row_tie rfl ⟨rfl,rfl⟩ (by kernel_rfl) rfl plain (by kernel_rfl)
#print axioms card
end Go.Proofs.YtfbljmcjadfkoaaGreatDoor.p40
