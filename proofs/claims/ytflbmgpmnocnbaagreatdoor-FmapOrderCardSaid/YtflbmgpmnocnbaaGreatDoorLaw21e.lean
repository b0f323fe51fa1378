/- The plain law of the least and the greatest float of a list. No program in sight. -/
import Derived.Test.YtflbmgpmnocnbaaGreatDoorFloatO
import Derived.Test.YtflbmgpmnocnbaaGreatDoorFloatP
import Derived.Test.YtflbmgpmnocnbaaGreatDoorProg
import Derived.Test.YtflbmgpmnocnbaaGreatDoorLaneP
import Derived.WalkKit
import Derived.WalkSpells
import Derived.WalkLawsBesides
import Derived.Laws.BitsAllLaws
import Derived.KernelRfl
import Derived.Outline
import Derived.Deep.Cut
import Derived.Deep.CutRange
import Derived.Test.YtflbmgpmnocnbaaGreatDoorTabP
import Derived.Test.YtflbmgpmnocnbaaGreatDoorSqT
import Derived.Test.YtflbmgpmnocnbaaGreatDoorCoG
import Derived.Test.YtflbmgpmnocnbaaGreatDoorCoCQ
import Derived.Test.YtflbmgpmnocnbaaGreatDoorCoS
import Derived.Test.YtflbmgpmnocnbaaGreatDoorCoBV
import Derived.Test.YtflbmgpmnocnbaaGreatDoorRmB
namespace Go.Proofs.YtflbmgpmnocnbaaGreatDoor.AmF
set_option maxRecDepth 100000
set_option maxHeartbeats 4000000
open Ieee Go.RowKit AmF AmC
variable {a b w x : Nat}
def negW (w:Nat):Nat:=w^^^9223372036854775808
def pick (x y:Nat):Nat:=
 if double.read x== .infinity true||double.read y== .infinity true then double.write (.infinity true)
 else if(double.read x).isNaN||(double.read y).isNaN then 9221120237041090561
 else if(double.read x).isZero && (double.read y).isZero then(if(double.read x).neg==true then x else y)
 else if(double.read x).order (double.read y)==some .lt then x else y
def lessB (x least:Nat):Bool:=decide (key x<key least)||(decide (rung x=0) && decide (rung least=0) && sgn x)
def moreB (x most:Nat):Bool:=decide (key most<key x)||(decide (rung x=0) && decide (rung most=0) && !sgn x)
def leastFrom (least:Nat)(l:List Nat):Nat:=l.foldl (fun a x=>if lessB x a then x else a) least
def mostFrom (most:Nat)(l:List Nat):Nat:=l.foldl (fun a x=>if moreB x a then x else a) most
def words (l:List Nat):Prop:=∀x∈l,x<18446744073709551616
end Go.Proofs.YtflbmgpmnocnbaaGreatDoor.AmF

/-! The plain law of rounding a float's word by its bits. No program in sight. -/
namespace Go.Proofs.YtflbmgpmnocnbaaGreatDoor.AmF
set_option maxRecDepth 100000
set_option maxHeartbeats 4000000
open Ieee Go.RowKit AmF AmC
end Go.Proofs.YtflbmgpmnocnbaaGreatDoor.AmF

/-! Small functions of package math by their contracts. -/
namespace Go.Proofs.YtflbmgpmnocnbaaGreatDoor
set_option maxRecDepth 100000
set_option maxHeartbeats 4000000
open Ieee Go.RowKit AmF AmC
variable {a b x : Nat}
theorem order_f64 (a b:Nat):FloatKind.f64.format.order a b=if nanB a||nanB b then none else some (compare (key a) (key b)):=order_key a b
theorem compare_refl (k:Int):compare k k= .eq:=by simp[compare,compareOfLessAndEq]
theorem neq_self (x:Nat):(FloatKind.f64.format.order x x !=some .eq)=nanB x:=by
 rw[order_f64,Bool.or_self,compare_refl]
 cases nanB x<;>rfl
theorem cmp_eq (a b:Int):(compare a b== .eq)=decide (a=b):=by
 unfold compare instOrdInt compareOfLessAndEq;by_cases h1:a<b
 ·simp[h1];omega
 ·by_cases h2:a=b
  ·simp[h2]
  ·simp[h1,h2]
theorem eq_key (ha:nanB a=false)(hb:nanB b=false):(FloatKind.f64.format.order a b==some .eq)=decide (key a=key b):=by
 rw[order_f64,ha,hb,←cmp_eq];rfl
theorem none_key (h:nanB a=true∨nanB b=true):FloatKind.f64.format.order a b=none:=by
 rw[order_f64]
 rcases h with h|h<;>rw[h]<;>simp
def infS (s:Bool)(x:Nat):Bool:=(rung x==9218868437227405312) && (sgn x==s)
theorem math_IsNaN (x:Nat)(w:World):Calls Tryz.prog 47 #[.float .f64 x] w fun e w'=>e= .returned (.bool (nanB x))∧w=w':=by
 go_in;go_wp2;go_ret;exact⟨ret_bool (neq_self x),rfl⟩
theorem wrap_sign (hx:x<18446744073709551616):decide (wrap64 (x:Int)<0)=sgn x:=by
 unfold wrap64;unfold sgn;by_cases h:x<9223372036854775808
 ·have e:x/9223372036854775808 % 2=0:=by omega
  rw[e];simp;omega
 ·have e:x/9223372036854775808 % 2=1:=by omega
  rw[e];simp;omega
theorem math_Signbit (x:Nat)(hx:x<18446744073709551616)(w:World):Calls Tryz.prog 11 #[.float .f64 x] w fun e w'=>e= .returned (.bool (sgn x))∧w=w':=by
 have HW:=qd (wrap_sign hx);have he:=@run_callFunc_extern Tryz.prog 27 _ Extern.MathFloatBits.float64bits Tryz.func27 (by kernel_rfl) (by kernel_rfl) (by kernel_rfl) (by kernel_rfl);have hb:=fun(b:Nat) (W:World)=>show(Extern.MathFloatBits.float64bits #[.float .f64 b]).run Tryz.prog W= .ok (.int .u64 (b:Int)) W from rfl;go_in;go_wp2;go_ret;exact⟨ret_bool HW.out,rfl⟩
theorem and_rung (hx:x<18446744073709551616):bits .andNot .u64 (x:Int) 9223372036854775808=((rung x:Nat):Int):=by
 have:=u64_andNot_nat x 9223372036854775808 hx (by omega)
 have e:x &&& (18446744073709551615-9223372036854775808)=rung x:=by
  rw[show 18446744073709551615-9223372036854775808=2^63-1 by decide,Nat.and_two_pow_sub_one_eq_mod];rfl
 rw[e]at this;exact this
end Go.Proofs.YtflbmgpmnocnbaaGreatDoor

/-! Floats in their one form, and the keys of the forms: the plain law. No program in sight. -/
namespace Go.Proofs.YtflbmgpmnocnbaaGreatDoor.AmF
set_option maxRecDepth 100000
set_option maxHeartbeats 4000000
open Ieee Go.RowKit AmF AmC
variable {x : Nat}
def formW (x:Nat):Nat:=if nanB x then 9221120237041090560 else if rung x=0 then 0 else x
def okey (x:Nat):Nat:=if sgn (formW x)then 18446744073709551615-formW x else formW x+9223372036854775808
theorem formW_lt (h:x<18446744073709551616):formW x<18446744073709551616:=by
 unfold formW;split
 ·decide
 ·split
  ·decide
  ·exact h
theorem formW_form (x:Nat):formW (formW x)=formW x:=by
 by_cases h:nanB x=true
 ·have:formW x=9221120237041090560:=by unfold formW;rw[if_pos h]
  rw[this];decide
 ·by_cases h0:rung x=0
  ·have:formW x=0:=by unfold formW;rw[if_neg h,if_pos h0]
   rw[this];decide
  ·have:formW x=x:=by unfold formW;rw[if_neg h,if_neg h0]
   rw[this];exact this
theorem sgn_lt (h:x<18446744073709551616):(sgn x=true↔9223372036854775808≤x):=by
 unfold sgn;simp only[beq_iff_eq];omega
theorem okey_lt (h:x<18446744073709551616):okey x<18446744073709551616:=by
 have h1:=formW_lt h;have h2:=sgn_lt h1;unfold okey;by_cases hs:sgn (formW x)=true
 ·rw[if_pos hs];omega
 ·rw[if_neg hs];have:=mt h2.2 hs;omega
theorem okey_inj {y:Nat}(hx:x<18446744073709551616)(hy:y<18446744073709551616):okey x=okey y↔formW x=formW y:=by
 refine⟨fun h=> ?_,fun h=>by unfold okey;rw[h]⟩;have h1:=formW_lt hx;have h2:=sgn_lt h1;have h3:=formW_lt hy;have h4:=sgn_lt h3;unfold okey at h;by_cases hs:sgn (formW x)=true
 ·rw[if_pos hs]at h;have g1:=h2.1 hs;by_cases ht:sgn (formW y)=true
  ·rw[if_pos ht]at h;have g2:=h4.1 ht;omega
  ·rw[if_neg ht]at h;have g2:=mt h4.2 ht;omega
 ·rw[if_neg hs]at h;have g1:=mt h2.2 hs;by_cases ht:sgn (formW y)=true
  ·rw[if_pos ht]at h;have g2:=h4.1 ht;omega
  ·rw[if_neg ht]at h;omega
theorem nan_form (x:Nat):nanB (formW x)=nanB x:=by
 by_cases h:nanB x=true
 ·have:formW x=9221120237041090560:=by unfold formW;rw[if_pos h]
  rw[this,h];decide
 ·by_cases h0:rung x=0
  ·have:formW x=0:=by unfold formW;rw[if_neg h,if_pos h0]
   have h':nanB x=false:=by simpa using h
   rw[this,h'];decide
  ·have:formW x=x:=by unfold formW;rw[if_neg h,if_neg h0]
   rw[this]
theorem key_zero:key x=0↔rung x=0:=by
 unfold key
 cases sgn x<;>simp
end Go.Proofs.YtflbmgpmnocnbaaGreatDoor.AmF

/-! order.Form, Bits, Key, fmap.Hash and amblerref27.Form by their contracts. No statement of the claim. -/
namespace Go.Proofs.YtflbmgpmnocnbaaGreatDoor
set_option maxRecDepth 100000
set_option maxHeartbeats 4000000
open Ieee Go.RowKit AmF AmC
variable {x : Nat}
theorem eq_zero_f (hn:nanB x=false):(FloatKind.f64.format.order x 0==some .eq)=decide (rung x=0):=by
 rw[eq_key hn (show nanB 0=false by decide),show key 0=0 by decide,Bool.eq_iff_iff];simp[key_zero]
theorem or_top {a:Nat}(h:a<9223372036854775808):bits .or .u64 (a:Int) 9223372036854775808=((a+9223372036854775808:Nat):Int):=by
 have h1:=u64_or_nat a 9223372036854775808 (by omega) (by omega);have h2:=Nat.two_pow_add_eq_or_of_lt (i:=63) (b:=a) (by simpa using h) 1;rw[show(2:Nat)^63*1=9223372036854775808 by decide]at h2;rw[Nat.or_comm,←h2,Nat.add_comm]at h1;exact h1
def fhash (k:Nat):Nat:=k*11400714819323198485 % 18446744073709551616
theorem fhash_lt (k:Nat):fhash k<18446744073709551616:=Nat.mod_lt _ (by decide)
theorem order_Form (x:Nat)(w:World):Calls Tryz.prog 28 #[.float .f64 x] w fun e w'=>e= .returned (.float .f64 (formW x))∧w=w':=by
 have hx:=@run_callFunc_extern Tryz.prog 23 _ Extern.MathFloatBits.float64frombits Tryz.func23 (by kernel_rfl) (by kernel_rfl) (by kernel_rfl) (by kernel_rfl);have hf:=fun(n:Int) (W:World)=>show(Extern.MathFloatBits.float64frombits #[.int .u64 n]).run Tryz.prog W= .ok (.float .f64 n.toNat) W from rfl;have HN:=qd (fun(W:World)=>math_IsNaN x W)
 cases hn:nanB x with
 |true=>
  rw[hn]at HN;have HV:=qd (show formW x=9221120237041090560 from by unfold formW;simp[hn]);clear hn;go_in;go_wp2_with fail;refine(HN.out _).mono ?_;rintro e w1 ⟨rfl,rfl⟩;go_wp2;go_ret;exact⟨ret_val (by rw[HV.out];rfl),rfl⟩
 |false=>
  rw[hn]at HN;by_cases h0:rung x=0
  ·have q:(FloatKind.f64.format.order x 0==some .eq)=true:=by rw[eq_zero_f hn];simpa using h0
   have HV:=qd (show formW x=0 from by unfold formW;simp[hn,h0]);clear hn h0;go_in;go_wp2_with fail;refine(HN.out _).mono ?_;rintro e w1 ⟨rfl,rfl⟩;go_wp2;go_ret;exact⟨ret_val (by rw[HV.out];rfl),rfl⟩
  ·have q:(FloatKind.f64.format.order x 0==some .eq)=false:=by rw[eq_zero_f hn];simpa using h0
   have HV:=qd (show formW x=x from by unfold formW;simp[hn,h0]);clear hn h0;go_in;go_wp2_with fail;refine(HN.out _).mono ?_;rintro e w1 ⟨rfl,rfl⟩;go_wp2;go_ret;exact⟨ret_val (by rw[HV.out];rfl),rfl⟩
theorem order_Bits (x:Nat)(w:World):Calls Tryz.prog 19 #[.float .f64 x] w fun e w'=>e= .returned (.int .u64 (formW x:Int))∧w=w':=by
 have he:=@run_callFunc_extern Tryz.prog 27 _ Extern.MathFloatBits.float64bits Tryz.func27 (by kernel_rfl) (by kernel_rfl) (by kernel_rfl) (by kernel_rfl);have hb:=fun(b:Nat) (W:World)=>show(Extern.MathFloatBits.float64bits #[.float .f64 b]).run Tryz.prog W= .ok (.int .u64 (b:Int)) W from rfl;have HF:=qd (fun(W:World)=>order_Form x W);go_in;go_wp2_with fail;refine(HF.out _).mono ?_;rintro e w1 ⟨rfl,rfl⟩;go_wp2;go_ret;exact⟨rfl,rfl⟩
theorem order_Key (x:Nat)(hx:x<18446744073709551616)(w:World):Calls Tryz.prog 18 #[.float .f64 x] w fun e w'=>e= .returned (.int .u64 (okey x:Int))∧w=w':=by
 have HB:=qd (fun(W:World)=>order_Bits x W);have HF:=qd (fun(W:World)=>order_Form x W);have HS:=qd (fun(W:World)=>math_Signbit (formW x) (formW_lt hx) W);have hl:=formW_lt hx;have hsl:=sgn_lt hl
 cases hs:sgn (formW x)with
 |true=>
  rw[hs]at HS;have HV:=qd (show okey x=18446744073709551615-formW x from by unfold okey;rw[if_pos hs]);clear hsl hs;go_in;go_wp2_with fail;refine(HB.out _).mono ?_;rintro e w1 ⟨rfl,rfl⟩;go_wp2_with fail;refine(HF.out _).mono ?_;rintro e w1 ⟨rfl,rfl⟩;go_wp2_with fail;refine(HS.out _).mono ?_;rintro e w1 ⟨rfl,rfl⟩;go_wp2;go_ret;exact⟨ret_val (by rw[HV.out];exact congrArg (Value.int .u64) (not_u64_nat _ hl)),rfl⟩
 |false=>
  rw[hs]at HS
  have hlt:formW x<9223372036854775808:=by
   have:=mt hsl.2 (by rw[hs];simp);omega
  have HV:=qd (show okey x=formW x+9223372036854775808 from by unfold okey;rw[if_neg (by rw[hs];simp)]);clear hsl hs;go_in;go_wp2_with fail;refine(HB.out _).mono ?_;rintro e w1 ⟨rfl,rfl⟩;go_wp2_with fail;refine(HF.out _).mono ?_;rintro e w1 ⟨rfl,rfl⟩;go_wp2_with fail;refine(HS.out _).mono ?_;rintro e w1 ⟨rfl,rfl⟩;go_wp2;go_ret;exact⟨ret_val (by rw[HV.out];exact congrArg (Value.int .u64) (or_top hlt)),rfl⟩
theorem fmap_Hash (x:Nat)(hx:x<18446744073709551616)(w:World):Calls Tryz.prog 20 #[.float .f64 x] w fun e w'=>e= .returned (.int .u64 (fhash (okey x):Int))∧w=w':=by
 have HK:=qd (fun(W:World)=>order_Key x hx W);have HV:=qd (show(fhash (okey x):Int)=IntKind.u64.wrap ((okey x:Int)*11400714819323198485)from by unfold fhash;rw[IntKind.wrap_u64];omega);go_in;go_wp2_with fail;refine(HK.out _).mono ?_;rintro e w1 ⟨rfl,rfl⟩;go_wp2;go_ret;exact⟨ret_val (by rw[HV.out];rfl),rfl⟩
end Go.Proofs.YtflbmgpmnocnbaaGreatDoor

/-! A map of floats as one thing: its block, its map, as a function of keys. No statement of the claim. -/
namespace Go.Proofs.YtflbmgpmnocnbaaGreatDoor
set_option maxRecDepth 100000
set_option maxHeartbeats 4000000
open Ieee Go.RowKit AmF AmC
variable {es es' : List Ent}
def fnOf (es:List Ent):Nat→Option Nat:=fun k=>(look es k).map Ent.val
def fupd (R:Nat→Option Nat)(k:Nat)(v:Option Nat):Nat→Option Nat:=fun x=>if x=k then v else R x
theorem fupd_same (R:Nat→Option Nat)(k:Nat)(v:Option Nat):fupd R k v k=v:=if_pos rfl
theorem fupd_ne {R:Nat→Option Nat}{k x:Nat}{v:Option Nat}(h:x≠k):fupd R k v x=R x:=if_neg h
theorem look_rest (es:List Ent)(key k:Nat):look (rest es key) k=if k=key then none else look es k:=by
 unfold look rest;rw[List.find?_filter];split
 ·rename_i h;subst h;rw[List.find?_eq_none];intro x _;simp
 ·rename_i h;congr 1;funext x;by_cases hx:x.key=k
  ·simp[hx,h]
  ·simp[hx]
theorem look_snoc (l:List Ent)(e:Ent)(k:Nat):look (l++[e]) k=(look l k).or (if e.key=k then some e else none):=by
 unfold look;rw[List.find?_append];congr 1;by_cases h:e.key=k
 ·simp[h]
 ·simp[h]
theorem rest_len (hn:(es.map Ent.key).Nodup)(key:Nat):(rest es key).length=if(fnOf es key).isSome then es.length-1 else es.length:=by
 unfold fnOf
 cases hl:look es key with
 |none=>rw[rest_none hl];simp
 |some e=>
  obtain⟨h1,rfl⟩:=look_mem hl;have hp:=List.perm_cons_erase h1;have h2:=(rest_cons hn hp).length_eq;rw[h2,List.length_erase_of_mem h1];simp
theorem fn_put {M:Nat}{e:Ent}(hn:(es.map Ent.key).Nodup)(hn':(es'.map Ent.key).Nodup)(hlt:es.length<M)(hp:es'.Perm (putL M es e)):fnOf es'=fupd (fnOf es) e.key (some e.val)∧es'.length=if(fnOf es e.key).isSome then es.length else es.length+1:=by
 have hf:fullB M es e.key=false:=by unfold fullB;rw[show decide (M≤es.length)=false by simp;omega];simp
 unfold putL at hp;rw[hf]at hp;simp only[Bool.false_eq_true,if_false]at hp;constructor
 ·funext k;show(look es' k).map Ent.val=_;rw[look_perm hp hn',look_snoc,look_rest];by_cases hk:k=e.key
  ·rw[if_pos hk,hk,fupd_same,if_pos rfl];rfl
  ·rw[if_neg hk,fupd_ne hk,if_neg (fun h=>hk h.symm),Option.or_none];rfl
 ·rw[hp.length_eq,List.length_append,rest_len hn];show(if(fnOf es e.key).isSome=true then es.length-1 else es.length)+1=_;by_cases hs:(fnOf es e.key).isSome=true
  ·rw[if_pos hs,if_pos hs]
   have:0<es.length:=by
    cases es with
    |nil=>simp[fnOf,look]at hs
    |cons=>simp
   omega
  ·rw[if_neg hs,if_neg hs]
def upN (o:Option Nat)(n:Nat):Nat:=if o.isSome then n else n+1
def dnN (o:Option Nat)(n:Nat):Nat:=if o.isSome then n-1 else n
def FmAt (W0:World)(E:Nat→Addr)(K M I fb b:Nat)(G:List Nat)(w:World)(R:Nat→Option Nat)(n:Nat)(its:List It)(gv:Nat):Prop:=
 ∃(F:List Nat) (a:Pool) (ids:List Nat) (lst:Cnt),Blk w fb 52 #[.pointer (some ⟨b,0,none⟩)]∧RtAt W0 E fhash K M I b F w a ids its gv lst∧G=fb::F∧fb∉F∧W0.heap.size≤fb∧fnOf a.ents=R∧a.ents.length=n
def FmTo (W0:World)(E:Nat→Addr)(K M I fb b:Nat)(G:List Nat)(w w':World)(R:Nat→Option Nat)(n:Nat)(its:List It)(gv:Nat):Prop:=
 ∃G',FmAt W0 E K M I fb b G' w' R n its gv∧(∀q∈G',q∈G∨w.heap.size≤q)∧Mod G w w'
section
variable {W0 : World} {E : Nat → Addr} {K M I fb b : Nat} {G F : List Nat} {w w' : World} {R R' : Nat → Option Nat} {n n' : Nat} {its its' : List It} {gv gv' : Nat} {a : Pool} {ids : List Nat} {lst : Cnt}
theorem FmAt.below (h:FmAt W0 E K M I fb b G w R n its gv)(hb:Below w.heap.size w w'):FmAt W0 E K M I fb b G w' R n its gv:=by
 obtain⟨F,a,ids,lst,h1,h2,h3⟩:=h;exact⟨F,a,ids,lst,h1.below hb h1.lt,h2.below hb,h3⟩
theorem FmAt.lts (h:FmAt W0 E K M I fb b G w R n its gv):∀q∈G,q<w.heap.size∧W0.heap.size≤q:=by
 obtain⟨F,a,ids,lst,h1,h2,rfl,h4,h5,_⟩:=h;intro q hq;rcases List.mem_cons.1 hq with rfl|hq
 ·exact⟨h1.lt,h5⟩
 ·exact h2.facts.1 q hq
theorem FmAt.of {a':Pool}{ids':List Nat}{lst':Cnt}(hB:Blk w fb 52 #[.pointer (some ⟨b,0,none⟩)])(hne:fb∉F)(h0:W0.heap.size≤fb)(hr:RtTo W0 E fhash K M I b F w w' a' ids' its' gv' lst')(hR:fnOf a'.ents=R')(hn:a'.ents.length=n'):FmTo W0 E K M I fb b (fb::F) w w' R' n' its' gv':=by
 obtain⟨F',h1,h2,h3⟩:=hr;have hl:=hB.lt;refine⟨fb::F',⟨F',a',ids',lst',hB.mod h3 hne,h1,rfl,fun hf=> ?_,h0,hR,hn⟩,fun q hq=> ?_,h3.more (fun q hq=>List.mem_cons_of_mem _ hq)⟩
 ·rcases h2 fb hf with k|k
  ·exact hne k
  ·omega
 ·rcases List.mem_cons.1 hq with k|k
  ·exact .inl (by rw[k];simp)
  ·rcases h2 q k with z|z
   ·exact .inl (List.mem_cons_of_mem _ z)
   ·exact .inr z
theorem FmAt.size0 (h:FmAt W0 E K M I fb b G w R n its gv):W0.heap.size≤w.heap.size:=by
 obtain⟨F,a,ids,lst,h1,_,_,_,h5,_⟩:=h;have:=h1.lt;omega
theorem FmAt.mod {S:List Nat}(h:FmAt W0 E K M I fb b G w R n its gv)(hm:Mod S w w')(hS:∀q∈S,q∉G∧W0.heap.size≤q):FmAt W0 E K M I fb b G w' R n its gv:=by
 obtain⟨F,a,ids,lst,h1,h2,rfl,h3⟩:=h;exact⟨F,a,ids,lst,h1.mod hm (fun hq=>(hS fb hq).1 (by simp)),h2.mod hm (fun q hq=>⟨fun hf=>(hS q hq).1 (List.mem_cons_of_mem _ hf),(hS q hq).2⟩),rfl,h3⟩
theorem FmTo.of_drew (h:FmTo W0 E K M I fb b G w.drew w' R n its gv):FmTo W0 E K M I fb b G w w' R n its gv:=by
 obtain⟨G',h1,h2,h3⟩:=h;exact⟨G',h1,h2,(Mod.of_below (Below.refl w.heap.size w).drew G).then h3⟩
end
end Go.Proofs.YtflbmgpmnocnbaaGreatDoor

/-! Package fmap by its contracts. No statement of the claim. -/
namespace Go.Proofs.YtflbmgpmnocnbaaGreatDoor
set_option maxRecDepth 100000
set_option maxHeartbeats 4000000
open Ieee Go.RowKit AmF AmC
variable {E : Nat → Addr} {W0 w : World} {its : List It} {I K M b fb gv n : Nat} {G : List Nat} {R : Nat → Option Nat}
theorem fm_New (hE:Env W0 E w)(k m i:Int)(hcf:cfgOk k m i=true)(K M I:Nat)(hkm:(1≤K∧K≤64)∧(1≤M∧M≤192)∧k=(K:Int)∧m=(M:Int)∧i=(I:Int))(hi8:1≤I∧I≤8):Calls Tryz.prog 5 #[cfgV k m i] w fun y w'=>∃fb b G,y= .returned (.tuple #[.pointer (some ⟨fb,0,none⟩),.nilIface])∧FmAt W0 E K M I fb b G w' (fun _=>none) 0 [] 0∧(∀q∈G,w.heap.size≤q)∧Below w.heap.size w w':=by
 have hb0:=(Below.refl w.heap.size w).alloc (Nat.le_refl _) (.cells #[.int .i64 k,.int .i64 m,.int .i64 i] 30);have hX:=Blk.new w 30 #[.int .i64 k,.int .i64 m,.int .i64 i];obtain⟨W,hW⟩:∃W,W=w.alloc (.cells #[.int .i64 k,.int .i64 m,.int .i64 i] 30):=⟨_,rfl⟩;rw[←hW]at hb0 hX;obtain⟨x0,x1,x2⟩:=hX.c3;have hn:=rt_New fhash (hE.next hb0) k m i hcf K M I hkm hi8;unfold cfgV at hn⊢;have HN:=qd hn;have HB:=qd hb0;have HW:=qd hW;have HE:=qd hE.size;clear hn hb0 hX hE hcf hkm hi8 hW;go_in;go_upto_region 1 with fail;rw[←HW.out];go_wp2_with fail;refine HN.out.mono ?_;rintro y w2 ⟨b,G,rfl,hA,hG,hb⟩;have hfa:=hA.facts.1;have hsz:=HB.out.size;have hs2:=hb.size;have hb2:=below2 HB.out hb;have hal:=hb2.alloc (by omega) (.cells #[.pointer (some ⟨b,0,none⟩)] 52);have HAl:=qd hal;have HH:=qd (show FmAt W0 E K M I w2.heap.size b (w2.heap.size::G) (w2.alloc (.cells #[.pointer (some ⟨b,0,none⟩)] 52)) (fun _=>none) 0 [] 0 from⟨G,_,_,_,Blk.new w2 52 #[.pointer (some ⟨b,0,none⟩)],hA.below ((Below.refl _ _).alloc (Nat.le_refl _) _),rfl,fun hg=>Nat.lt_irrefl _ (hfa _ hg).1,by have:=HE.out;omega,by rw[ents0];rfl,by rw[ents0];rfl⟩)
 have HF:=qd (show∀p∈w2.heap.size::G,w.heap.size≤p from fun p hp=>by
  rcases List.mem_cons.1 hp with rfl|k
  ·omega
  ·have:=hG p k;omega)
 clear hA hG hb hfa hs2 hal HN hsz hb2 x0 x1 x2;go_wp2;refine bodyPost_ret (v:= .tuple #[.pointer (some ⟨w2.heap.size,0,none⟩),.nilIface]) (by simp[results,Tryz.results5,go_sem]) rfl ⟨_,b,_,rfl,HH.out,HF.out,HAl.out⟩
theorem fm_Len (h:FmAt W0 E K M I fb b G w R n its gv):Calls Tryz.prog 8 #[.pointer (some ⟨fb,0,none⟩)] w fun y w'=>y= .returned (.int .i64 (n:Int))∧w=w':=by
 obtain⟨F,a,ids,lst,hB,hR,rfl,hne,h0,hfn,hln⟩:=h;have c0:=hB.cell 0;simp only[List.getElem?_toArray,List.getElem?_cons_zero]at c0;have HL:=qd (rt_Len hR);rw[hln]at HL;clear hB hR hne h0 hfn hln;go_in;go_wp2_with fail;refine HL.out.mono ?_;rintro y w1 ⟨rfl,rfl⟩;go_wp2;go_ret;exact⟨rfl,rfl⟩
theorem fm_Get (h:FmAt W0 E K M I fb b G w R n its gv)(x:Nat)(hx:x<18446744073709551616):Calls Tryz.prog 9 #[.pointer (some ⟨fb,0,none⟩),.float .f64 x] w fun y w'=>y= .returned (.tuple #[.float .f64 ((R (okey x)).getD 0),.bool (R (okey x)).isSome])∧FmTo W0 E K M I fb b G w w' R n its gv:=by
 obtain⟨F,a,ids,lst,hB,hR,rfl,hne,h0,hfn,hln⟩:=h;have c0:=hB.cell 0;simp only[List.getElem?_toArray,List.getElem?_cons_zero]at c0;have hRd:=hR.below (Below.refl w.heap.size w).drew;have hg:=rt_Get hRd (okey x) (fhash_lt _);have HK:=qd (fun(W:World)=>order_Key x hx W);have HH:=qd (fun(W:World)=>fmap_Hash x hx W);have hxx:=@run_callFunc_extern Tryz.prog 23 _ Extern.MathFloatBits.float64frombits Tryz.func23 (by kernel_rfl) (by kernel_rfl) (by kernel_rfl) (by kernel_rfl);have hff:=fun(n:Int) (W:World)=>show(Extern.MathFloatBits.float64frombits #[.int .u64 n]).run Tryz.prog W= .ok (.float .f64 n.toNat) W from rfl;have HB:=qd hB;have HNe:=qd (And.intro hne h0);have HF:=qd (And.intro hfn hln);rw[show R (okey x)=(look a.ents (okey x)).map Ent.val from by rw[←hfn];rfl];clear hB hR hRd hne h0 hfn hln;unfold getV at hg
 cases hl:look a.ents (okey x)with
 |none=>
  rw[hl]at hg;have HG:=qd (show Calls Tryz.prog 25 #[.pointer (some ⟨b,0,none⟩),.int .u64 (okey x:Int),.int .u64 (fhash (okey x):Int)] w.drew (fun y w'=>y= .returned (.tuple #[.int .u64 0,.bool false])∧∃lst',RtTo W0 E fhash K M I b F w.drew w' a ids its gv lst')from hg);clear hl hg;go_in;go_upto_region 1 with fail;refine rT (fun(w':World)=>w'.cell? ⟨fb,0,none⟩=some (.pointer (some ⟨b,0,none⟩))) [8] ?_;have hHeld:=c0;refine vW 0 rfl ?_;refine vW 1 rfl ?_;refine vW 2 rfl ?_;refine vT 3 rfl ?_;refine vW 4 rfl ?_;refine vW 6 rfl ?_;refine nT 5 rfl fun K hK=> ?_;go_simp;refine(HK.out _).mono ?_;rintro y1 wq ⟨rfl,rfl⟩;go_wp2_with fail;have hHeld:=c0;refine kO hK ?_;clear hK K;refine nT 7 rfl fun K hK=> ?_;go_simp;refine(HH.out _).mono ?_;rintro y1 wq ⟨rfl,rfl⟩;go_wp2_with fail;have hHeld:=c0;refine kO hK ?_;clear hK K;refine nT 8 rfl fun K hK=> ?_;go_simp;refine HG.out.mono ?_;rintro y1 w1 ⟨rfl,lst1,hto⟩;have HT:=qd (FmTo.of_drew (FmAt.of HB.out.drew HNe.out.1 HNe.out.2 hto HF.out.1 HF.out.2));clear hto HG HB HNe HF;go_wp2_with fail;refine kO hK ?_;clear hK K;refine vL 9 rfl ?_;refine vL 10 rfl ?_;refine vL 11 rfl ?_;refine vL 12 rfl ?_;refine vL 13 rfl ?_;refine doneT (by kernel_rfl) ?_ _;go_wp2;refine bodyPost_ret (v:= .tuple #[.float .f64 0,.bool false]) (by simp[results,Tryz.results9,go_sem]) rfl ⟨rfl,HT.out⟩
 |some e=>
  rw[hl]at hg;have HG:=qd (show Calls Tryz.prog 25 #[.pointer (some ⟨b,0,none⟩),.int .u64 (okey x:Int),.int .u64 (fhash (okey x):Int)] w.drew (fun y w'=>y= .returned (.tuple #[.int .u64 (e.val:Int),.bool true])∧∃lst',RtTo W0 E fhash K M I b F w.drew w' a ids its gv lst')from hg);clear hl hg;go_in;go_upto_region 1 with fail;refine rT (fun(w':World)=>w'.cell? ⟨fb,0,none⟩=some (.pointer (some ⟨b,0,none⟩))) [8] ?_;have hHeld:=c0;refine vW 0 rfl ?_;refine vW 1 rfl ?_;refine vW 2 rfl ?_;refine vT 3 rfl ?_;refine vW 4 rfl ?_;refine vW 6 rfl ?_;refine nT 5 rfl fun K hK=> ?_;go_simp;refine(HK.out _).mono ?_;rintro y1 wq ⟨rfl,rfl⟩;go_wp2_with fail;have hHeld:=c0;refine kO hK ?_;clear hK K;refine nT 7 rfl fun K hK=> ?_;go_simp;refine(HH.out _).mono ?_;rintro y1 wq ⟨rfl,rfl⟩;go_wp2_with fail;have hHeld:=c0;refine kO hK ?_;clear hK K;refine nT 8 rfl fun K hK=> ?_;go_simp;refine HG.out.mono ?_;rintro y1 w1 ⟨rfl,lst1,hto⟩;have HT:=qd (FmTo.of_drew (FmAt.of HB.out.drew HNe.out.1 HNe.out.2 hto HF.out.1 HF.out.2));clear hto HG HB HNe HF;go_wp2_with fail;refine kO hK ?_;clear hK K;refine vL 9 rfl ?_;refine vL 10 rfl ?_;refine vL 11 rfl ?_;refine vL 12 rfl ?_;refine vL 13 rfl ?_;refine doneT (by kernel_rfl) ?_ _;go_wp2;refine bodyPost_ret (v:= .tuple #[.float .f64 e.val,.bool true]) (by simp[results,Tryz.results9,go_sem]) rfl ⟨rfl,HT.out⟩
theorem fm_Put (h:FmAt W0 E K M I fb b G w R n its gv)(x v:Nat)(hx:x<18446744073709551616)(hv:v<18446744073709551616)(hn:n<M):Calls Tryz.prog 6 #[.pointer (some ⟨fb,0,none⟩),.float .f64 x,.float .f64 v] w fun y w'=>y= .returned .nilIface∧FmTo W0 E K M I fb b G w w' (fupd R (okey x) (some (formW v))) (upN (R (okey x)) n) its gv:=by
 obtain⟨F,a,ids,lst,hB,hR,rfl,hne,h0,hfn,hln⟩:=h;have c0:=hB.cell 0;simp only[List.getElem?_toArray,List.getElem?_cons_zero]at c0;have hRd:=hR.below (Below.refl w.heap.size w).drew;have hnd:=hR.facts.2.1;have hp:=rt_Put hRd ⟨okey x,formW v,fhash (okey x)⟩ ⟨rfl,fhash_lt _,okey_lt hx,formW_lt hv⟩;rw[show putC M a.ents (⟨okey x,formW v,fhash (okey x)⟩:Ent).key=0 from by unfold putC fullB;rw[show decide (M≤a.ents.length)=false by simp;omega];simp]at hp;have HP:=qd (show Calls Tryz.prog 17 #[.pointer (some ⟨b,0,none⟩),.int .u64 (okey x:Int),.int .u64 (formW v:Int),.int .u64 (fhash (okey x):Int)] w.drew (fun y w'=>y= .returned .nilIface∧∃a' ids' lst',RtTo W0 E fhash K M I b F w.drew w' a' ids' its gv lst'∧PutR fhash K M a ids ⟨okey x,formW v,fhash (okey x)⟩ a' ids')from hp);have HK:=qd (fun(W:World)=>order_Key x hx W);have HH:=qd (fun(W:World)=>fmap_Hash x hx W);have HV:=qd (fun(W:World)=>order_Bits v W);have HB:=qd hB;have HNe:=qd (And.intro hne h0);have HF:=qd (And.intro hfn hln);have HD:=qd hnd;have HN:=qd hn;clear hp hB hR hRd hne h0 hfn hln hnd hn;go_in;go_upto_region 1 with fail;refine rT (fun(w':World)=>w'.cell? ⟨fb,0,none⟩=some (.pointer (some ⟨b,0,none⟩))) [10] ?_;have hHeld:=c0;refine vW 0 rfl ?_;refine vW 1 rfl ?_;refine vW 2 rfl ?_;refine vT 3 rfl ?_;refine vW 4 rfl ?_;refine vW 6 rfl ?_;refine vW 8 rfl ?_;refine nT 5 rfl fun K hK=> ?_;go_simp;refine(HK.out _).mono ?_;rintro y1 wq ⟨rfl,rfl⟩;go_wp2_with fail;have hHeld:=c0;refine kO hK ?_
 clear hK K;refine nT 7 rfl fun K hK=> ?_;go_simp;refine(HV.out _).mono ?_;rintro y1 wq ⟨rfl,rfl⟩;go_wp2_with fail;have hHeld:=c0;refine kO hK ?_;clear hK K;refine nT 9 rfl fun K hK=> ?_;go_simp;refine(HH.out _).mono ?_;rintro y1 wq ⟨rfl,rfl⟩;go_wp2_with fail;have hHeld:=c0;refine kO hK ?_;clear hK K;refine nT 10 rfl fun K hK=> ?_;go_simp;refine HP.out.mono ?_;rintro y1 w1 ⟨rfl,a1,ids1,lst1,hto,hpr⟩;have hnd1:=hto.choose_spec.1.facts.2.1;have hfp:=fn_put HD.out hnd1 (by rw[HF.out.2];exact HN.out) hpr.1;rw[HF.out.1,HF.out.2]at hfp;have HT:=qd (FmTo.of_drew (FmAt.of HB.out.drew HNe.out.1 HNe.out.2 hto hfp.1 hfp.2));clear hto hpr HP HB HNe HF hfp hnd1;go_wp2_with fail;refine kO hK ?_;clear hK K;refine vL 11 rfl ?_;refine doneT (by kernel_rfl) ?_ _;go_wp2;refine bodyPost_ret (v:= .nilIface) (by simp[results,Tryz.results6,go_sem]) rfl ⟨rfl,HT.out⟩
end Go.Proofs.YtflbmgpmnocnbaaGreatDoor

/-! amblerref21.Map: find, Get: where a key stands, its value. -/
namespace Go.Proofs.YtflbmgpmnocnbaaGreatDoor
set_option maxRecDepth 100000
set_option maxHeartbeats 4000000
open Ieee Go.RowKit AmF AmC
variable {j key m : Nat} {es : List Ent} {e : Ent}
def FindPost (es:List Ent)(key:Nat)(y:Int):Prop:=(∃(i:Nat) (e:Ent),es[i]?=some e∧e.key=key∧y=(i:Int)∧∀k,k<i→∀e',es[k]?=some e'→e'.key≠key)∨((∀e∈es,e.key≠key)∧y= -1)
end Go.Proofs.YtflbmgpmnocnbaaGreatDoor

/-! amblerref21.Map: Put. -/
namespace Go.Proofs.YtflbmgpmnocnbaaGreatDoor
set_option maxRecDepth 100000
set_option maxHeartbeats 4000000
open Ieee Go.RowKit AmF AmC
variable {es : List Ent} {j key : Nat} {e : Ent}
def without (es:List Ent)(key j:Nat):List Ent:=(es.take j).filter fun x=>x.key !=key
end Go.Proofs.YtflbmgpmnocnbaaGreatDoor

/-! amblerref21.Map: Delete. -/
namespace Go.Proofs.YtflbmgpmnocnbaaGreatDoor
set_option maxRecDepth 100000
set_option maxHeartbeats 4000000
open Ieee Go.RowKit AmF AmC
end Go.Proofs.YtflbmgpmnocnbaaGreatDoor

/-! amblernum.Before; amblerref21.Map: Least. -/
namespace Go.Proofs.YtflbmgpmnocnbaaGreatDoor
set_option maxRecDepth 100000
set_option maxHeartbeats 4000000
open Ieee Go.RowKit AmF AmC
end Go.Proofs.YtflbmgpmnocnbaaGreatDoor

/-! amblerref21.Map by its contracts, with where it lies. No statement of the claim. -/
namespace Go.Proofs.YtflbmgpmnocnbaaGreatDoor
set_option maxRecDepth 100000
set_option maxHeartbeats 4000000
open Ieee Go.RowKit AmF AmC
section
variable {w w' : World} {base mb M : Nat} {es : List Ent} {R : List Nat}
end
def cutAt (y:Option Ent)(hi:Nat):Option Ent:=match y with|none=>none|some m=>if m.hash≤hi then some m else none
end Go.Proofs.YtflbmgpmnocnbaaGreatDoor

/-! amblerlaw21.walk: going over a core comes to all its entries, in order. -/
namespace Go.Proofs.YtflbmgpmnocnbaaGreatDoor
set_option maxRecDepth 100000
set_option maxHeartbeats 4000000
open Ieee Go.RowKit AmF AmC
variable {l : List Ent} {m : Ent} {b base : Nat} {w : World} {v : Value}
def Asc (l:List Ent):Prop:=l.Pairwise fun x y=>lessE x y=true
theorem Asc.nodup (h:Asc l):l.Nodup:=h.imp fun hxy e=>by rw[e,less_irrefl]at hxy;cases hxy
theorem asc_snoc (h:Asc l)(hm:∀e∈l,lessE e m=true):Asc (l++[m]):=List.pairwise_append.2 ⟨h,List.pairwise_singleton _ _,fun x hx y hy=>by rw[List.mem_singleton.1 hy];exact hm x hx⟩
def below_ (hs:List Nat)(b:Nat):Nat:=(hs.filter fun h=>decide (h<b)).length
theorem below_mono (hs:List Nat){a:Nat}(h:a≤b):below_ hs a≤below_ hs b:=by
 unfold below_
 induction hs with
 |nil=>simp
 |cons x l ih=>
  simp only[List.filter_cons];by_cases h1:x<a
  ·rw[if_pos (by simpa using h1),if_pos (by simp;omega)];simp only[List.length_cons];omega
  ·rw[if_neg (by simpa using h1)]
   split<;>(try simp only[List.length_cons])<;>omega
theorem below_more {hs:List Nat}{a x:Nat}(hx:x∈hs)(h1:a≤x)(h2:x<b):below_ hs a+1≤below_ hs b:=by
 obtain⟨s,t,rfl⟩:=List.append_of_mem hx;have g1:=below_mono s (Nat.le_trans h1 (Nat.le_of_lt h2));have g2:=below_mono t (Nat.le_trans h1 (Nat.le_of_lt h2));unfold below_ at g1 g2⊢;rw[List.filter_append,List.filter_append,List.filter_cons,List.filter_cons,if_neg (by simp;omega),if_pos (by simp;omega)];simp only[List.length_append,List.length_cons];omega
theorem below_le (hs:List Nat)(b:Nat):below_ hs b≤hs.length:=List.length_filter_le _ _
structure WalkSt (es:List Ent)(hs:List Nat)(n:Nat)(out:List Ent)(key hash:Nat):Prop where
 asc:Asc out
 mem:∀e,e∈out↔e∈es∧lessE e ⟨key,0,hash⟩=true
 cnt:n≤out.length+below_ hs hash
section
variable {es out : List Ent} {hs : List Nat} {n key hash hi : Nat}
theorem WalkSt.start (es:List Ent)(hs:List Nat):WalkSt es hs 0 [] 0 0:=⟨.nil,fun e=>by simp[lessE],Nat.zero_le _⟩
theorem sub_nodup {l':List Ent}(hn:l.Nodup)(hs:∀x∈l,x∈l'):l.length≤l'.length:=by
 induction l generalizing l' with
 |nil=>exact Nat.zero_le _
 |cons x l ih=>
  rw[List.nodup_cons]at hn;obtain⟨s,t,rfl⟩:=List.append_of_mem (hs x (by simp))
  have h1:=ih (l':=s++t) hn.2 (fun y hy=>by
   have:=hs y (by simp[hy]);simp only[List.mem_append,List.mem_cons]at this⊢;rcases this with h|h|h
   ·exact .inl h
   ·rw[h]at hy;exact absurd hy hn.1
   ·exact .inr h)
  simp only[List.length_append,List.length_cons]at h1⊢;omega
theorem WalkSt.len (h:WalkSt es hs n out key hash):out.length≤es.length:=sub_nodup h.asc.nodup (fun e he=>((h.mem e).1 he).1)
theorem WalkSt.few (h:WalkSt es hs n out key hash)(h1:es.length≤192)(h2:hs.length≤32):n≤224:=by
 have:=h.cnt;have:=h.len;have:=below_le hs hash;omega
theorem WalkSt.some_ (h:WalkSt es hs n out key hash)(hn:(es.map Ent.key).Nodup)(hm:IsLeast ⟨key,0,hash⟩ (upto es hi) (some m)):WalkSt es hs (n+1) (out++[m]) (m.key+1) m.hash∧(∀e∈out,lessE e m=true)∧m.hash≤hi∧m∈es:=by
 obtain⟨m1,m2⟩:=mem_upto.1 hm.1
 have hlt:∀e∈out,lessE e m=true:=fun e he=>by
  have h1:=((h.mem e).1 he).2;have h2:=hm.2.1;simp[lessE]at h1 h2⊢;omega
 have hh:=less_hash hm.2.1;refine⟨⟨asc_snoc h.asc hlt,fun e=>⟨fun he=> ?_,fun he=> ?_⟩, ?_⟩,hlt,m2,m1⟩
 ·rcases List.mem_append.1 he with h1|h1
  ·refine⟨((h.mem e).1 h1).1, ?_⟩;have:=hlt e h1;simp[lessE]at this⊢;omega
  ·rw[List.mem_singleton.1 h1];exact⟨m1,by simp[lessE]⟩
 ·rw[List.mem_append,List.mem_singleton]
  cases hl:lessE e ⟨key,0,hash⟩with
  |true=>exact .inl ((h.mem e).2 ⟨he.1,hl⟩)
  |false=>
   right;have h1:=he.2;have h2:=hm.2.2 e (mem_upto.2 ⟨he.1,by simp[lessE]at h1;omega⟩) hl
   have hk:e.key=m.key:=by simp[lessE]at h1 h2;omega
   have e1:=look_some hn he.1;have e2:=look_some hn m1;rw[hk,e2]at e1;exact(Option.some.inj e1).symm
 ·have:=h.cnt;have:=below_mono hs hh;simp only[List.length_append,List.length_cons,List.length_nil];omega
theorem WalkSt.none_ (h:WalkSt es hs n out key hash)(hm:IsLeast ⟨key,0,hash⟩ (upto es hi) none)(h1:hash≤hi)(h2:hi∈hs):WalkSt es hs (n+1) out 0 (hi+1):=by
 refine⟨h.asc,fun e=>⟨fun he=> ?_,fun he=> ?_⟩, ?_⟩
 ·have:=(h.mem e).1 he;refine⟨this.1, ?_⟩;have h3:=this.2;simp[lessE]at h3⊢;omega
 ·have h3:=he.2;exact(h.mem e).2 ⟨he.1,hm e (mem_upto.2 ⟨he.1,by simp[lessE]at h3;omega⟩)⟩
 ·have:=h.cnt;have:=below_more (b:=hi+1) h2 h1 (by omega);omega
end
end Go.Proofs.YtflbmgpmnocnbaaGreatDoor
