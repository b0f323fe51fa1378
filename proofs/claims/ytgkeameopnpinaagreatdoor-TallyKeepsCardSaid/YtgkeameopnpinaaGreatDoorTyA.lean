/- Package tally: its block over a map of words; finite floats, hash, Get, set. No statement of the claim. -/
import Derived.Test.YtgkeameopnpinaaGreatDoorMpA
import Derived.Test.YtgkeameopnpinaaGreatDoorCoO
import Derived.Test.YtgkeameopnpinaaGreatDoorLaneP
import Derived.Test.YtgkeameopnpinaaGreatDoorFloatP
import Derived.Test.YtgkeameopnpinaaGreatDoorGaugeA
import Derived.Test.YtgkeameopnpinaaGreatDoorTyP
namespace Go.Proofs.YtgkeameopnpinaaGreatDoor
set_option maxRecDepth 100000
set_option maxHeartbeats 4000000
open Go.RowKit bY rZ lH
def fC (W0:World)(E:Nat→Addr)(kd K M I tb b:Nat)(G:List Nat)(w:World)(R:Nat→Option Nat)(n gv:Nat):Prop:=
 ∃F,aj w tb 52 #[pQ b,nI kd]∧kg W0 E (lq kd) K M I b F w R n [] gv∧G=tb::F∧tb∉F∧W0.heap.size≤tb
def iC (W0:World)(E:Nat→Addr)(kd K M I tb b:Nat)(G:List Nat)(w w':World)(R:Nat→Option Nat)(n gv:Nat):Prop:=
 ∃G',fC W0 E kd K M I tb b G' w' R n gv∧(∀q∈G',q∈G∨w.heap.size≤q)∧Mod G w w'
section
variable {W0 : World} {E : Nat → Addr} {kd K M I tb b : Nat} {G F : List Nat} {w w' : World} {R R' : Nat → Option Nat} {n n' gv oV : Nat}
theorem fC.below (h:fC W0 E kd K M I tb b G w R n gv)(hb:Below w.heap.size w w'):fC W0 E kd K M I tb b G w' R n gv:=by
 obtain⟨F,h1,h2,h3⟩:=h;exact⟨F,h1.below hb h1.lt,h2.below hb,h3⟩
theorem fC.fA (h:fC W0 E kd K M I tb b G w R n gv):∀q∈G,q<w.heap.size∧W0.heap.size≤q:=by
 obtain⟨F,h1,h2,rfl,h4,h5⟩:=h;intro q hq;rcases List.mem_cons.1 hq with rfl|hq
 ·exact⟨h1.lt,h5⟩
 ·exact h2.fA q hq
theorem fC.env (h:fC W0 E kd K M I tb b G w R n gv):Env W0 E w:=by
 obtain⟨F,h1,h2,_⟩:=h;exact h2.env
theorem fC.of (hB:aj w tb 52 #[pQ b,nI kd])(hne:tb∉F)(h0:W0.heap.size≤tb)(hr:yB W0 E (lq kd) K M I b F w w' R' n' [] oV):iC W0 E kd K M I tb b (tb::F) w w' R' n' oV:=by
 obtain⟨F',h1,h2,h3⟩:=hr;have hl:=hB.lt;refine⟨tb::F',⟨F',hB.mod h3 hne,h1,rfl,fun hf=> ?_,h0⟩,fun q hq=> ?_,h3.more (fun q hq=>List.mem_cons_of_mem _ hq)⟩
 ·rcases h2 tb hf with k|k
  ·exact hne k
  ·omega
 ·rcases List.mem_cons.1 hq with k|k
  ·exact .inl (by rw[k];simp)
  ·rcases h2 q k with z|z
   ·exact .inl (List.mem_cons_of_mem _ z)
   ·exact .inr z
theorem iC.CS (h:iC W0 E kd K M I tb b G w.drew w' R n gv):iC W0 E kd K M I tb b G w w' R n gv:=by
 obtain⟨G',h1,h2,h3⟩:=h;exact⟨G',h1,h2,(Mod.of_below (Below.refl w.heap.size w).drew G).then h3⟩
theorem iC.same (h:fC W0 E kd K M I tb b G w R n gv)(hb:Below w.heap.size w w'):iC W0 E kd K M I tb b G w w' R n gv:=⟨G,h.below hb,fun _ hq=> .inl hq,Mod.of_below hb G⟩
theorem iC.comp {V:World}{G1:List Nat}(a2:∀q∈G1,q∈G∨w.heap.size≤q)(a3:Mod G w V)(h2:iC W0 E kd K M I tb b G1 V w' R' n' oV):iC W0 E kd K M I tb b G w w' R' n' oV:=by
 obtain⟨G2,b1,b2,b3⟩:=h2;refine⟨G2,b1,fun q hq=> ?_,a3.trans b3 (fun _ hk _=>hk) (fun q hq hl=> ?_)⟩
 ·rcases b2 q hq with k|k
  ·exact a2 q k
  ·exact .inr (Nat.le_trans a3.size k)
 ·rcases a2 q hq with k|k
  ·exact k
  ·exact absurd hl (by omega)
end
def pI (x:Nat):Bool:=decide (rung x=9218868437227405312)
theorem aai (x:Nat):rung x<9223372036854775808:=Nat.mod_lt _ (by decide)
theorem JM (x:Nat):gV x=(!dX x && !pI x):=by
 unfold gV dX pI;by_cases h1:rung x<9218868437227405312
 ·simp[h1,show¬9218868437227405312<rung x by omega,show¬rung x=9218868437227405312 by omega]
 ·by_cases h2:rung x=9218868437227405312
  ·simp[h1,h2]
  ·simp[h1,h2,show 9218868437227405312<rung x by omega]
theorem JN (x:Nat):rung (rung x)=rung x:=by unfold rung;omega
theorem PN {r:Nat}(h:r<9223372036854775808):key r=(r:Int):=by
 unfold key oW rung;rw[show r/9223372036854775808=0 by omega,show r % 9223372036854775808=r by omega];rfl
theorem abR (x:Nat):(FloatKind.f64.format.order (rung x) 9218868437227405311==some .gt)=pI x:=by
 have hr:=aai x;by_cases hn:dX x=true
 ·have hn2:dX (rung x)=true:=by unfold dX at hn⊢;rw[JN];exact hn
  rw[RA hn2];unfold dX at hn;unfold pI;have:=of_decide_eq_true hn;exact(decide_eq_false (by omega)).symm
 ·have hn0:dX x=false:=by simpa using hn
  have hn2:dX (rung x)=false:=by unfold dX at hn0⊢;rw[JN];exact hn0
  rw[UW hn2 aag,aaf,PN hr];unfold dX at hn0;have:=of_decide_eq_false hn0;unfold pI;by_cases he:rung x=9218868437227405312
  ·rw[decide_eq_true he];exact decide_eq_true (by omega)
  ·rw[decide_eq_false he];exact decide_eq_false (by omega)
theorem DX (x:Nat)(hx:x<18446744073709551616)(w:World):Calls Tryz.prog 10 #[.float .f64 x,.int .i64 0] w fun e w'=>e= .returned (.bool (pI x))∧w=w':=by
 have HA:=qd (fun(W:World)=>XQ x hx W);have hg:=abR x;go_in;go_wp2_with fail;refine(HA.out _).mono ?_;rintro e wq ⟨rfl,rfl⟩;go_wp2;refine bodyPost_ret (v:= .bool (pI x)) (by simp[results,Tryz.results10,go_sem,hg]) rfl ⟨rfl,rfl⟩
theorem jL (x:Nat)(hx:x<18446744073709551616)(w:World):Calls Tryz.prog 14 #[.float .f64 x] w fun e w'=>e= .returned (.bool (gV x))∧w=w':=by
 have HN:=qd (fun(W:World)=>RB x W);have HI:=qd (fun(W:World)=>DX x hx W);rw[JM]
 cases hn:dX x with
 |true=>
  rw[hn]at HN;go_in;go_wp2_with fail;refine(HN.out _).mono ?_;rintro e wq ⟨rfl,rfl⟩;go_wp2;go_ret;exact⟨rfl,rfl⟩
 |false=>
  rw[hn]at HN;go_in;go_wp2_with fail;refine(HN.out _).mono ?_;rintro e wq ⟨rfl,rfl⟩;go_wp2_with fail;refine(HI.out _).mono ?_;rintro e wq ⟨rfl,rfl⟩;go_wp2;go_ret;exact⟨by simp,rfl⟩
theorem H9 {kd tb key:Nat}{w:World}(hkd:kd≤5)(hk:key<18446744073709551616)(h1:w.cell? ⟨tb,1,none⟩=some (nI kd)):Calls Tryz.prog 25 #[pQ tb,nU key] w fun e w'=>e= .returned (.int .u64 (lq kd key:Int))∧w=w':=by
 have HM:=qd (fun(W:World)=>abx kd key hk hkd W);go_in;go_wp2_with fail;refine(HM.out _).mono ?_;rintro e wq ⟨rfl,rfl⟩;go_wp2;go_ret;exact⟨rfl,rfl⟩
theorem Gr {W0:World}{E:Nat→Addr}{kd K M I tb b:Nat}{G:List Nat}{w:World}{R:Nat→Option Nat}{n gv:Nat}(h:fC W0 E kd K M I tb b G w R n gv)(hkd:kd≤5)(key:Nat)(hk:key<18446744073709551616):Calls Tryz.prog 11 #[pQ tb,nU key] w fun e w'=>e= .returned (.float .f64 ((R key).getD 0))∧iC W0 E kd K M I tb b G w w' R n gv:=by
 obtain⟨F,hB,hM,rfl,hne,h0⟩:=h;obtain⟨c0,c1⟩:=hB.c2;have HB:=qd hB;have eH:=qd (And.intro hne h0);have HH:=qd (fun(W:World) (h1:W.cell? ⟨tb,1,none⟩=some (nI kd))=>H9 (tb:=tb) hkd hk h1);have Gs:=hM.below (Below.refl w.heap.size w).drew;have hg:=abv Gs key (Hz _ _)
 cases hr:R key with
 |none=>
  rw[hr]at hg;have HG:=qd (show Calls Tryz.prog 24 #[pQ b,nU key,.int .u64 (lq kd key:Int)] w.drew (fun y w'=>y= .returned (.tuple #[.int .u64 0,.bool false])∧yB W0 E (lq kd) K M I b F w.drew w' R n [] gv)from hg);clear hg hM Gs hB hne h0 hr;go_in;go_upto_region 1 with fail;refine rT (fun(w':World)=>w'.cell? ⟨tb,0,none⟩=some (pQ b)) [8] ?_;have hHeld:=c0;refine vW 0 rfl ?_;refine vW 1 rfl ?_;refine vW 2 rfl ?_;refine vT 3 rfl ?_;refine vW 4 rfl ?_;refine vW 5 rfl ?_;refine vW 6 rfl ?_;refine nT 7 rfl fun K hK=> ?_;rw[if_pos (by kernel_rfl)];go_wp2_with fail;refine(HH.out (World.drew w) c1).mono ?_;rintro y1 wq ⟨rfl,rfl⟩;go_wp2_with fail;have hHeld:=c0;refine kO hK ?_;clear hK K;refine nT 8 rfl fun K hK=> ?_;rw[if_pos (by kernel_rfl)];go_wp2_with fail;refine HG.out.mono ?_;rintro y1 w1 ⟨rfl,hto⟩;have HT:=qd (iC.CS (fC.of HB.out.drew eH.out.1 eH.out.2 hto));clear hto HG HB eH;go_wp2_with fail;refine kO hK ?_;clear hK K;refine vL 9 rfl ?_;refine vL 10 rfl ?_;refine vL 11 rfl ?_;refine vL 12 rfl ?_;refine vL 13 rfl ?_;refine aQ (by kernel_rfl) ?_ _;go_wp2;refine bodyPost_ret (v:= .float .f64 0) (by simp[results,Tryz.results11,go_sem]) rfl ⟨rfl,HT.out⟩
 |some v=>
  rw[hr]at hg;have HG:=qd (show Calls Tryz.prog 24 #[pQ b,nU key,.int .u64 (lq kd key:Int)] w.drew (fun y w'=>y= .returned (.tuple #[nU v,.bool true])∧yB W0 E (lq kd) K M I b F w.drew w' R n [] gv)from hg);clear hg hM Gs hB hne h0 hr;have hxx:=@run_callFunc_extern Tryz.prog 19 _ Extern.MathFloatBits.float64frombits Tryz.func19 (by kernel_rfl) (by kernel_rfl) (by kernel_rfl) (by kernel_rfl);have MI:=fun(n:Int) (W:World)=>show(Extern.MathFloatBits.float64frombits #[.int .u64 n]).run Tryz.prog W= .ok (.float .f64 n.toNat) W from rfl;go_in;go_upto_region 1 with fail;refine rT (fun(w':World)=>w'.cell? ⟨tb,0,none⟩=some (pQ b)) [8] ?_;have hHeld:=c0;refine vW 0 rfl ?_;refine vW 1 rfl ?_;refine vW 2 rfl ?_;refine vT 3 rfl ?_;refine vW 4 rfl ?_;refine vW 5 rfl ?_;refine vW 6 rfl ?_;refine nT 7 rfl fun K hK=> ?_;rw[if_pos (by kernel_rfl)];go_wp2_with fail;refine(HH.out (World.drew w) c1).mono ?_;rintro y1 wq ⟨rfl,rfl⟩;go_wp2_with fail;have hHeld:=c0;refine kO hK ?_;clear hK K;refine nT 8 rfl fun K hK=> ?_;rw[if_pos (by kernel_rfl)];go_wp2_with fail;refine HG.out.mono ?_;rintro y1 w1 ⟨rfl,hto⟩;have HT:=qd (iC.CS (fC.of HB.out.drew eH.out.1 eH.out.2 hto));clear hto HG HB eH;go_wp2_with fail;refine kO hK ?_;clear hK K;refine vL 9 rfl ?_;refine vL 10 rfl ?_;refine vL 11 rfl ?_;refine vL 12 rfl ?_;refine vL 13 rfl ?_;refine aQ (by kernel_rfl) ?_ _;go_wp2
  refine bodyPost_ret (v:= .float .f64 v) (by simp[results,Tryz.results11,go_sem]) rfl ⟨rfl,HT.out⟩
def uI (x:Nat):Bool:=FloatKind.f64.format.order x 0==some .lt||FloatKind.f64.format.order x 0==some .eq
theorem JO {W0:World}{E:Nat→Addr}{kd K M I tb b:Nat}{G:List Nat}{w:World}{R:Nat→Option Nat}{n gv:Nat}(h:fC W0 E kd K M I tb b G w R n gv)(hkd:kd≤5)(key:Nat)(hk:key<18446744073709551616)(x:Nat)(hl:uI x=true):Calls Tryz.prog 15 #[pQ tb,nU key,.float .f64 x] w fun e w'=>e= .returned .nilIface∧iC W0 E kd K M I tb b G w w' (ED R key) (Rp (R key) n) gv:=by
 obtain⟨F,hB,hM,rfl,hne,h0⟩:=h;obtain⟨c0,c1⟩:=hB.c2;have HB:=qd hB;have eH:=qd (And.intro hne h0);have HH:=qd (fun(W:World) (h1:W.cell? ⟨tb,1,none⟩=some (nI kd))=>H9 (tb:=tb) hkd hk h1);have Gs:=hM.below (Below.refl w.heap.size w).drew;have HD:=qd (UF Gs ⟨key,0,lq kd key⟩ ⟨rfl,Hz _ _,hk,by show 0<18446744073709551616;decide⟩);unfold uI at hl;clear hM Gs hB hne h0;go_in;go_upto_region 2 with fail;refine rT (fun(w':World)=>w'.cell? ⟨tb,0,none⟩=some (pQ b)) [8] ?_;have hHeld:=c0;refine vW 0 rfl ?_;refine vW 1 rfl ?_;refine vW 2 rfl ?_;refine vT 3 rfl ?_;refine vW 4 rfl ?_;refine vW 5 rfl ?_;refine vW 6 rfl ?_;refine nT 7 rfl fun K hK=> ?_;rw[if_pos (by kernel_rfl)];go_wp2_with fail;refine(HH.out (World.drew w) c1).mono ?_;rintro y1 wq ⟨rfl,rfl⟩;go_wp2_with fail;have hHeld:=c0;refine kO hK ?_;clear hK K;refine nT 8 rfl fun K hK=> ?_;rw[if_pos (by kernel_rfl)];go_wp2_with fail;refine HD.out.mono ?_;rintro y1 w1 ⟨rfl,hto⟩;have HT:=qd (iC.CS (fC.of HB.out.drew eH.out.1 eH.out.2 hto));clear hto HD HB eH;go_wp2_with fail;refine kO hK ?_;clear hK K;refine aQ (by kernel_rfl) ?_ _;go_wp2;refine bodyPost_ret (v:= .nilIface) (by simp[results,Tryz.results15,go_sem]) rfl ⟨rfl,HT.out⟩
theorem Ah {W0:World}{E:Nat→Addr}{kd K M I tb b:Nat}{G:List Nat}{w:World}{R:Nat→Option Nat}{n gv:Nat}(h:fC W0 E kd K M I tb b G w R n gv)(hkd:kd≤5)(key:Nat)(hk:key<18446744073709551616)(x:Nat)(hx:x<18446744073709551616)(hl:uI x=false):Calls Tryz.prog 15 #[pQ tb,nU key,.float .f64 x] w fun e w'=>e= .returned (iQ E (if noRoom M (R key) n then 2 else 0))∧iC W0 E kd K M I tb b G w w' (wN M R n key x) (yA M (R key) n) gv:=by
 obtain⟨F,hB,hM,rfl,hne,h0⟩:=h;obtain⟨c0,c1⟩:=hB.c2;have HB:=qd hB;have eH:=qd (And.intro hne h0);have HH:=qd (fun(W:World) (h1:W.cell? ⟨tb,1,none⟩=some (nI kd))=>H9 (tb:=tb) hkd hk h1);have Gs:=hM.below (Below.refl w.heap.size w).drew;obtain⟨ev,hev⟩:∃ev,ev=iQ E (if noRoom M (R key) n then 2 else 0):=⟨_,rfl⟩;have hp:=abu Gs ⟨key,x,lq kd key⟩ ⟨rfl,Hz _ _,hk,hx⟩;rw[show(av.mk key x (lq kd key)).key=key from rfl,←hev]at hp;rw[←hev];have HP:=qd (show Calls Tryz.prog 30 #[pQ b,nU key,nU x,.int .u64 (lq kd key:Int)] w.drew (fun y w'=>y= .returned ev∧yB W0 E (lq kd) K M I b F w.drew w' (wN M R n key x) (yA M (R key) n) [] gv)from hp);unfold uI at hl;have hxx:=@run_callFunc_extern Tryz.prog 31 _ Extern.MathFloatBits.float64bits Tryz.func31 (by kernel_rfl) (by kernel_rfl) (by kernel_rfl) (by kernel_rfl);have MI:=fun(x:Nat) (W:World)=>show(Extern.MathFloatBits.float64bits #[.float .f64 x]).run Tryz.prog W= .ok (nU x) W from rfl;clear hM Gs hB hne h0 hp hev;go_in;go_upto_region 4 with fail;refine rT (fun(w':World)=>w'.cell? ⟨tb,0,none⟩=some (pQ b)) [10] ?_;have hHeld:=c0;refine vW 0 rfl ?_;refine vW 1 rfl ?_;refine vW 2 rfl ?_;refine vT 3 rfl ?_;refine vW 4 rfl ?_;refine vW 5 rfl ?_;refine vW 7 rfl ?_;refine vW 8 rfl ?_;refine nT 6 rfl fun K hK=> ?_;rw[if_pos (by kernel_rfl)];go_wp2_with fail;have hHeld:=c0;refine kO hK ?_;clear hK K;refine nT 9 rfl fun K hK=> ?_;rw[if_pos (by kernel_rfl)];go_wp2_with fail
 refine(HH.out (World.drew w) c1).mono ?_;rintro y1 wq ⟨rfl,rfl⟩;go_wp2_with fail;have hHeld:=c0;refine kO hK ?_;clear hK K;refine nT 10 rfl fun K hK=> ?_;rw[if_pos (by kernel_rfl)];go_wp2_with fail;refine HP.out.mono ?_;rintro y1 w1 ⟨rfl,hto⟩;have HT:=qd (iC.CS (fC.of HB.out.drew eH.out.1 eH.out.2 hto));clear hto HP HB eH;go_wp2_with fail;refine kO hK ?_;clear hK K;refine vL 11 rfl ?_;refine aQ (by kernel_rfl) ?_ _;go_wp2;refine bodyPost_ret (v:=ev) (by simp[results,Tryz.results15,go_sem]) rfl ⟨rfl,HT.out⟩
end Go.Proofs.YtgkeameopnpinaaGreatDoor
