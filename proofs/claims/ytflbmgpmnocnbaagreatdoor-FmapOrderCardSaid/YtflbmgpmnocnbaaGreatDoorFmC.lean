/- The plain law of all pairs in the order of floats. No program in sight but the map's function. -/
import Derived.Test.YtflbmgpmnocnbaaGreatDoorFmF
import Derived.Test.YtflbmgpmnocnbaaGreatDoorLaw21e
import Derived.Test.YtflbmgpmnocnbaaGreatDoorLaneP
namespace Go.Proofs.YtflbmgpmnocnbaaGreatDoor
set_option maxRecDepth 100000
set_option maxHeartbeats 4000000
open Go.RowKit AmC AmF
section
variable {n x : Nat} {fs : List Nat} {R : Nat → Option Nat} {l : List (Nat × Nat)}
theorem okey_le (hx:x<18446744073709551616):okey x≤18444492273895866368:=by
 have h1:=formW_lt hx;have h2:=sgn_lt h1;unfold okey;by_cases hs:sgn (formW x)=true
 ·rw[if_pos hs];have:=h2.1 hs;omega
 ·rw[if_neg hs];have h3:=mt h2.2 hs;by_cases hn:nanB x=true
  ·have:formW x=9221120237041090560:=by unfold formW;rw[if_pos hn]
   omega
  ·have h4:nanB (formW x)=false:=by rw[nan_form];simpa using hn
   unfold nanB rung at h4;simp at h4;omega
theorem nan_key (hx:x<18446744073709551616):nanB x=true↔okey x=18444492273895866368:=by
 constructor
 ·intro h
  have:formW x=9221120237041090560:=by unfold formW;rw[if_pos h]
  unfold okey;rw[this]
  decide
 ·intro h
  have h1:okey x=okey 9221120237041090560:=by rw[h];decide
  have h2:=(okey_inj hx (by decide)).1 h1;rw[←nan_form,h2]
  decide
structure PutSt (fs:List Nat)(R:Nat→Option Nat)(n:Nat):Prop where
 dom:∀k v,R k=some v→(∃x∈fs,k=okey x)∧nanB v=false
 got:∀x∈fs,(R (okey x)).isSome
 few:n≤fs.length
theorem PutSt.nil:PutSt [] (fun _=>none) 0:=⟨fun _ _ h=>(by cases h),fun _ h=>absurd h List.not_mem_nil,Nat.le_refl _⟩
theorem PutSt.snoc {v:Nat}(h:PutSt fs R n)(hv:nanB v=false):PutSt (fs++[x]) (fupd R (okey x) (some v)) (upN (R (okey x)) n):=by
 refine⟨fun k u hk=> ?_,fun y hy=> ?_, ?_⟩
 ·by_cases hkx:k=okey x
  ·subst hkx;rw[fupd_same]at hk;obtain rfl:=Option.some.inj hk;exact⟨⟨x,(by simp),rfl⟩,hv⟩
  ·rw[fupd_ne hkx]at hk;obtain⟨⟨z,hz,hzk⟩,hu⟩:=h.dom k u hk;exact⟨⟨z,List.mem_append_left _ hz,hzk⟩,hu⟩
 ·by_cases hyx:okey y=okey x
  ·rw[hyx,fupd_same];rfl
  ·rw[fupd_ne hyx];rcases List.mem_append.1 hy with hy|hy
   ·exact h.got y hy
   ·rw[List.mem_singleton.1 hy]at hyx;exact absurd rfl hyx
 ·have:=h.few;unfold upN;rw[List.length_append,List.length_singleton]
  split<;>omega
theorem PutSt.keys (h:PutSt fs R n)(hfs:∀x∈fs,x<18446744073709551616):KeysOk R:=fun k v hk=>by
 obtain⟨⟨x,hx,hxk⟩,_⟩:=h.dom k v hk;exact⟨x,hfs x hx,hxk⟩
theorem raw_at (h:PutSt fs R n)(hfs:∀x∈fs,x<18446744073709551616)(hr:RawOf R n l){i:Nat}{p:Nat×Nat}(hp:l[i]?=some p):
  ∃z,z<18446744073709551616∧p.1=okey z∧kback p.1=formW z∧R p.1=some p.2∧nanB p.2=false∧nanB (formW z)=((fs.any nanB) && decide (i+1=l.length)):=by
 have hR:=(hr.mem p.1 p.2).1 (List.mem_of_getElem? hp);obtain⟨⟨z,hz,hzk⟩,hv⟩:=h.dom _ _ hR;have hz64:=hfs z hz;refine⟨z,hz64,hzk,by rw[hzk];exact kback_okey hz64,hR,hv, ?_⟩;obtain⟨hil,hpi⟩:=List.getElem?_eq_some_iff.1 hp;have hasc:=List.pairwise_iff_getElem.1 hr.asc;rw[nan_form,Bool.eq_iff_iff];constructor
 ·intro hn;have hk:=(nan_key hz64).1 hn;rw[Bool.and_eq_true,List.any_eq_true,decide_eq_true_iff];refine⟨⟨z,hz,hn⟩, ?_⟩;by_cases hlast:i+1=l.length
  ·exact hlast
  ·have hj:i+1<l.length:=by omega
   have h1:=hasc i (i+1) hil hj (by omega);have h2:=(hr.mem (l[i+1]).1 (l[i+1]).2).1 (List.getElem_mem hj);obtain⟨⟨y,hy,hyk⟩,_⟩:=h.dom _ _ h2;have h3:=okey_le (hfs y hy);rw[←hyk]at h3;rw[hpi]at h1;omega
 ·intro hh;rw[Bool.and_eq_true,List.any_eq_true,decide_eq_true_iff]at hh;obtain⟨⟨y,hy,hny⟩,hlast⟩:=hh;have hk:=(nan_key (hfs y hy)).1 hny;obtain⟨v,hv2⟩:=Option.isSome_iff_exists.1 (h.got y hy);obtain⟨j,hj⟩:=List.getElem?_of_mem ((hr.mem _ _).2 hv2);obtain⟨hjl,hpj⟩:=List.getElem?_eq_some_iff.1 hj;rw[nan_key hz64,←hzk];by_cases hji:j=i
  ·subst hji;rw[hpj]at hpi;rw[←hpi];exact hk
  ·have h1:=hasc j i hjl hil (by omega);rw[hpj,hpi]at h1;have h3:=okey_le hz64;rw[←hzk]at h3;simp only at h1;omega
theorem rise_unique:∀{l l':List (Nat×Nat)},(l.Pairwise fun a b=>a.1<b.1)→(l'.Pairwise fun a b=>a.1<b.1)→(∀p,p∈l↔p∈l')→l=l'
 | [],[],_,_,_=>rfl
 | [],y::l',_,_,h=>absurd ((h y).2 (by simp)) List.not_mem_nil
 |x::l,[],_,_,h=>absurd ((h x).1 (by simp)) List.not_mem_nil
 |x::l,y::l',h1,h2,h=>by
  rw[List.pairwise_cons]at h1 h2
  have hxy:x=y:=by
   rcases List.mem_cons.1 ((h x).1 (by simp))with e|e
   ·exact e
   ·rcases List.mem_cons.1 ((h y).2 (by simp))with e2|e2
    ·exact e2.symm
    ·have:=h1.1 y e2;have:=h2.1 x e;omega
  subst hxy;congr 1;refine rise_unique h1.2 h2.2 fun p=>⟨fun hp=> ?_,fun hp=> ?_⟩
  ·rcases List.mem_cons.1 ((h p).1 (List.mem_cons_of_mem _ hp))with e|e
   ·have:=h1.1 p hp;rw[e]at this;omega
   ·exact e
  ·rcases List.mem_cons.1 ((h p).2 (List.mem_cons_of_mem _ hp))with e|e
   ·have:=h2.1 p hp;rw[e]at this;omega
   ·exact e
theorem RawOf.unique {l':List (Nat×Nat)}(h:RawOf R n l)(h':RawOf R n l'):l=l':=
 rise_unique h.asc h'.asc fun p=>(h.mem p.1 p.2).trans (h'.mem p.1 p.2).symm
end
section
variable {W0 w : World} {E : Nat → Addr}
theorem math_Copysign01 (w:World):Calls Tryz.prog 14 #[.float .f64 0,.float .f64 13830554455654793216] w fun y w'=>y= .returned (.float .f64 9223372036854775808)∧w=w':=by
 have he:=@run_callFunc_extern Tryz.prog 27 _ Extern.MathFloatBits.float64bits Tryz.func27 (by kernel_rfl) (by kernel_rfl) (by kernel_rfl) (by kernel_rfl);have hb:=fun(b:Nat) (W:World)=>show(Extern.MathFloatBits.float64bits #[.float .f64 b]).run Tryz.prog W= .ok (.int .u64 (b:Int)) W from rfl;have hxx:=@run_callFunc_extern Tryz.prog 23 _ Extern.MathFloatBits.float64frombits Tryz.func23 (by kernel_rfl) (by kernel_rfl) (by kernel_rfl) (by kernel_rfl);have hff:=fun(n:Int) (W:World)=>show(Extern.MathFloatBits.float64frombits #[.int .u64 n]).run Tryz.prog W= .ok (.float .f64 n.toNat) W from rfl;go_in;go_wp2;go_ret;exact⟨rfl,rfl⟩
theorem fm_Add12 {K M I fb b:Nat}{G:List Nat}{R:Nat→Option Nat}{n:Nat}{its:List It}{gv:Nat}(h:FmAt W0 E K M I fb b G w R n its gv)(hR:R (okey 0)=some 4607182418800017408)(hn:n<M):Calls Tryz.prog 15 #[.pointer (some ⟨fb,0,none⟩),.float .f64 0,.float .f64 4611686018427387904] w fun y w'=>y= .returned (.tuple #[.float .f64 4613937818241073152,.nilIface])∧FmTo W0 E K M I fb b G w w' (fupd R (okey 0) (some 4613937818241073152)) n its gv:=by
 have hg:=fm_Get h 0 (by decide);rw[hR]at hg;have HG1:=qd (show Calls Tryz.prog 9 #[.pointer (some ⟨fb,0,none⟩),.float .f64 0] w (fun y w'=>y= .returned (.tuple #[.float .f64 4607182418800017408,.bool true])∧FmTo W0 E K M I fb b G w w' R n its gv)from hg);have HR:=qd hR;have HN:=qd hn;have HF:=qd (fun(W:World)=>(order_Form 4613937818241073152 W));rw[show formW 4613937818241073152=4613937818241073152 by decide]at HF;have hadd:=fun(W:World)=>show(binOp .add 31 (.float .f64 4607182418800017408) (.float .f64 4611686018427387904)).run Tryz.prog W= .ok (.float .f64 4613937818241073152) W from rfl;clear hg h hR hn;go_in;go_wp2_with fail;refine HG1.out.mono ?_;rintro y w1 ⟨rfl,G1,hA,hs,hm⟩;have hp:=fm_Put hA 0 4613937818241073152 (by decide) (by decide) HN.out;rw[HR.out]at hp;have HP:=qd (show Calls Tryz.prog 6 #[.pointer (some ⟨fb,0,none⟩),.float .f64 0,.float .f64 4613937818241073152] w1 (fun y w'=>y= .returned .nilIface∧FmTo W0 E K M I fb b G1 w1 w' (fupd R (okey 0) (some 4613937818241073152)) n its gv)from hp);have HS:=qd (And.intro hs hm);clear hp hA hs hm HG1;go_wp2_with fail;refine(HF.out _).mono ?_;rintro y wq ⟨rfl,rfl⟩;go_wp2_with fail;refine HP.out.mono ?_;rintro y w2 ⟨rfl,G2,hA,hs,hm⟩
 have HT:=qd (show FmTo W0 E K M I fb b G w w2 (fupd R (okey 0) (some 4613937818241073152)) n its gv from⟨G2,hA,fun q hq=>(hs q hq).elim (HS.out.1 q) (fun k=> .inr (Nat.le_trans HS.out.2.size k)),HS.out.2.trans hm (fun _ hk _=>hk) (fun k hk hl=>(HS.out.1 k hk).elim id (fun z=>absurd hl (by omega)))⟩);clear hA hs hm HP HS;go_wp2;refine bodyPost_ret (v:= .tuple #[.float .f64 4613937818241073152,.nilIface]) (by simp[results,Tryz.results15,go_sem]) rfl ⟨rfl,HT.out⟩
theorem law28_alive (hE:Env W0 E w):Calls Tryz.prog 4 #[] w fun y w'=>y= .returned (.bool true)∧Below w.heap.size w w':=by
 have hn:=fm_New hE 1 9 1 (by decide) 1 9 1 ⟨by decide,by decide,rfl,rfl,rfl⟩ (by decide);unfold cfgV at hn;have HN:=qd hn;clear hn hE;have HCs:=qd (fun(W:World)=>math_Copysign01 W);go_in;go_wp2_with fail;refine HN.out.mono ?_;rintro y w1 ⟨fb,b,G1,rfl,hA,hG,hb⟩;have HA:=qd hA;have HG:=qd hG;have HB:=qd hb;have HB0:=qd hb.size;clear hA hG hb HN;go_wp2_with fail;refine(HCs.out _).mono ?_;rintro y wq ⟨rfl,rfl⟩;have hp:=fm_Put HA.out 9223372036854775808 4607182418800017408 (by decide) (by decide) (by decide);rw[show okey 9223372036854775808=okey 0 by decide,show formW 4607182418800017408=4607182418800017408 by decide]at hp;have HC:=qd (show Calls Tryz.prog 6 #[.pointer (some ⟨fb,0,none⟩),.float .f64 9223372036854775808,.float .f64 4607182418800017408] w1 (fun y w'=>y= .returned .nilIface∧FmTo W0 E 1 9 1 fb b G1 w1 w' (fupd (fun _=>none) (okey 0) (some 4607182418800017408)) 1 [] 0)from hp);clear hp;go_wp2_with fail;refine HC.out.mono ?_;rintro y w2 ⟨rfl,G2,hA,hs,hm⟩;replace HB:=qd (HB.out.trans (hm.below HG.out HB.out.size));replace HG:=qd (show∀q∈G2,w.heap.size≤q from fun q hq=>(hs q hq).elim (HG.out q) (fun k=>Nat.le_trans HB0.out k));replace HB0:=qd HB.out.size;replace HA:=qd hA;clear hA hs hm HC;have HC:=qd (fm_Add12 HA.out (fupd_same _ _ _) (by decide));go_wp2_with fail;refine HC.out.mono ?_;rintro y w3 ⟨rfl,G3,hA,hs,hm⟩;replace HB:=qd (HB.out.trans (hm.below HG.out HB.out.size))
 replace HG:=qd (show∀q∈G3,w.heap.size≤q from fun q hq=>(hs q hq).elim (HG.out q) (fun k=>Nat.le_trans HB0.out k));replace HB0:=qd HB.out.size;replace HA:=qd hA;clear hA hs hm HC
 have hq3:(FloatKind.f64.format.order 4613937818241073152 4613937818241073152==some .eq)=true:=by decide
 have HC:=qd (fun(W:World) (hW:Below w3.heap.size w3 W)=>fm_Len (HA.out.below hW));go_wp2_with fail;refine(HC.out _ (Below.refl _ _)).mono ?_;rintro y wq ⟨rfl,rfl⟩;go_wp2;go_ret;exact⟨rfl,HB.out⟩
end
end Go.Proofs.YtflbmgpmnocnbaaGreatDoor
