/- Package tally: Add, by what comes of it. No statement of the claim. -/
import Derived.Test.YtgkeameopnpinaaGreatDoorTyA
import Derived.Test.YtgkeameopnpinaaGreatDoorLaneP
namespace Go.Proofs.YtgkeameopnpinaaGreatDoor
set_option maxRecDepth 100000
set_option maxHeartbeats 4000000
open Go.RowKit bY rZ lH
variable {a r x : Nat}
theorem CU (h:gV x=true):dX x=false:=by
 have:=JM x;rw[h]at this
 cases hn:dX x with
 |false=>rfl
 |true=>rw[hn]at this;cases this
theorem UZ (h:dX x=false):uI x=decide (key x≤0):=by
 unfold uI;rw[UY h (by decide:dX 0=false),abP h (by decide:dX 0=false),show key 0=0 by decide];by_cases h1:key x<0
 ·simp[h1,show key x≤0 by omega]
 ·by_cases h2:key x=0
  ·simp[h2]
  ·simp[h1,h2,show¬key x≤0 by omega]
theorem EJ (hx:x<18446744073709551616)(h:dX x=false)(ts:Array TypeId)(t:TypeId)(W:World):
  (Builtin.max_ ts t #[.float .f64 x,.float .f64 0]).run Tryz.prog W= .ok (.float .f64 (if uI x then 0 else x)) W:=by
 rw[UZ h]
 have ho:FloatKind.f64.format.order x 0=some (compare (key x) 0):=by rw[qK,h,show dX 0=false by decide,show key 0=0 by decide];rfl
 have hm:(Builtin.max_ ts t #[.float .f64 x,.float .f64 0])=(match FloatKind.f64.format.order x 0 with
  |none=>do pure (.float .f64 (←choose (.nanMinMax .f64 true x 0)))
  |some .lt=>pure (.float .f64 0)
  |some .gt=>pure (.float .f64 x)
  |some .eq=>pure (.float .f64 (if(FloatKind.f64.decode x).neg then 0 else x))):=by
  unfold Builtin.max_;simp[Builtin.max2];rfl
 rw[hm,ho];rcases Int.lt_trichotomy (key x) 0 with h1|h1|h1
 ·rw[show compare (key x) 0= .lt from by simp[compare,compareOfLessAndEq,h1]];rw[show decide (key x≤0)=true from decide_eq_true (by omega)];rfl
 ·rw[show compare (key x) 0= .eq from by simp[compare,compareOfLessAndEq,h1]];rw[show decide (key x≤0)=true from decide_eq_true (by omega)]
  have hr:rung x=0:=by unfold key at h1;split at h1<;>omega
  have:x=0∨x=9223372036854775808:=by unfold rung at hr;omega
  rcases this with rfl|rfl
  ·rfl
  ·rfl
 ·rw[show compare (key x) 0= .gt from by simp[compare,compareOfLessAndEq,show¬key x<0 by omega,show¬key x=0 by omega]];rw[show decide (key x≤0)=false from decide_eq_false (by omega)];rfl
theorem CV {b:Nat}(h:Ieee.double.add a b=some r)(t:TypeId)(W:World):(binOp .add t (.float .f64 a) (.float .f64 b)).run Tryz.prog W= .ok (.float .f64 r) W:=run_float_arith W .add t .f64 a _ _ h
theorem Ny {b:Nat}(h:Ieee.double.mul a b=some r)(t:TypeId)(W:World):(binOp .mul t (.float .f64 a) (.float .f64 b)).run Tryz.prog W= .ok (.float .f64 r) W:=run_float_arith W .mul t .f64 a _ _ h
theorem mW {b:Nat}(h:Ieee.double.add a b=some r):r<18446744073709551616:=Ieee.double.add_lt h
theorem Nz {b:Nat}(h:Ieee.double.mul a b=some r):r<18446744073709551616:=Ieee.double.mul_lt h
section
variable {W0 : World} {E : Nat → Addr} {kd K M I tb b : Nat} {G : List Nat} {w : World} {R : Nat → Option Nat} {n gv : Nat}
theorem acw (h:fC W0 E kd K M I tb b G w R n gv)(U0:dV E W0 13)(key f:Nat)(hf:f<18446744073709551616)(hn:gV f=false):Calls Tryz.prog 6 #[pQ tb,nU key,.float .f64 f] w fun y w'=>y= .returned (.tuple #[.float .f64 0,iQ E 13])∧iC W0 E kd K M I tb b G w w' R n gv:=by
 have HF:=qd (fun(W:World)=>jL f hf W);rw[hn]at HF;have e13:=U0.below h.env.below (Nat.le_refl _);unfold dV at e13;simp only[gE]at e13;have HT:=qd (iC.same h (Below.refl w.heap.size w).drew);clear h U0 hn;go_in;go_wp2_with fail;refine(HF.out _).mono ?_;rintro y wq ⟨rfl,rfl⟩;go_upto_region 2 with fail;go_region;go_wp2;refine bodyPost_ret (v:= .tuple #[.float .f64 0,iQ E 13]) (by simp[results,Tryz.results6,go_sem,iQ]) rfl ⟨rfl,HT.out⟩
theorem acy (h:fC W0 E kd K M I tb b G w R n gv)(hkd:kd≤5)(h11:dV E W0 11)(key f r:Nat)(hk:key<18446744073709551616)(hf:f<18446744073709551616)(hn:gV f=true)(ha:Ieee.double.add ((R key).getD 0) f=some r)(hr:gV r=false):Calls Tryz.prog 6 #[pQ tb,nU key,.float .f64 f] w fun y w'=>y= .returned (.tuple #[.float .f64 0,iQ E 11])∧iC W0 E kd K M I tb b G w w' R n gv:=by
 have HF:=qd (fun(W:World)=>jL f hf W);have HR:=qd (fun(W:World)=>jL r (mW ha) W);rw[hn]at HF;rw[hr]at HR;have HG:=qd (Gr h hkd key hk);have H11:=qd h11;have hadd:=fun t W=>CV ha t W;clear h h11 hn hr ha hk;go_in;go_wp2_with fail;refine(HF.out _).mono ?_;rintro y wq ⟨rfl,rfl⟩;go_wp2_with fail;refine HG.out.mono ?_;rintro y w1 ⟨rfl,hto⟩;obtain⟨G1,hA1,hs1,hm1⟩:=hto;have e11:=H11.out.below hA1.env.below (Nat.le_refl _);unfold dV at e11;simp only[gE]at e11;have HT:=qd (show iC W0 E kd K M I tb b G w w1.drew R n gv from⟨G1,hA1.below (Below.refl w1.heap.size w1).drew,hs1,hm1.then (Mod.of_below (Below.refl w1.heap.size w1).drew G)⟩);clear hA1 hs1 hm1 HG;go_wp2_with fail;refine(HR.out _).mono ?_;rintro y wq ⟨rfl,rfl⟩;go_upto_region 5 with fail;go_region;go_wp2;refine bodyPost_ret (v:= .tuple #[.float .f64 0,iQ E 11]) (by simp[results,Tryz.results6,go_sem,iQ]) rfl ⟨rfl,HT.out⟩
theorem acF (h:fC W0 E kd K M I tb b G w R n gv)(hkd:kd≤5)(key f r:Nat)(hk:key<18446744073709551616)(hf:f<18446744073709551616)(hn:gV f=true)(ha:Ieee.double.add ((R key).getD 0) f=some r)(hr:gV r=true)(hl:uI r=true):Calls Tryz.prog 6 #[pQ tb,nU key,.float .f64 f] w fun y w'=>y= .returned (.tuple #[.float .f64 0,.nilIface])∧iC W0 E kd K M I tb b G w w' (ED R key) (Rp (R key) n) gv:=by
 have HF:=qd (fun(W:World)=>jL f hf W);have HR:=qd (fun(W:World)=>jL r (mW ha) W);rw[hn]at HF;rw[hr]at HR;have HG:=qd (Gr h hkd key hk);have HS:=qd (fun(G1:List Nat) (W:World) (hA:fC W0 E kd K M I tb b G1 W R n gv)=>JO hA hkd key hk 0 rfl);have hadd:=fun t W=>CV ha t W;have hmax:=fun ts t W=>EJ (mW ha) (CU hr) ts t W;simp only[hl,if_true]at hmax;clear h hn hr ha hk hl;go_in;go_wp2_with fail;refine(HF.out _).mono ?_;rintro y wq ⟨rfl,rfl⟩;go_wp2_with fail;refine HG.out.mono ?_;rintro y w1 ⟨rfl,hto⟩;have HT:=qd hto;clear hto HG;go_wp2_with fail;refine(HR.out _).mono ?_;rintro y wq ⟨rfl,rfl⟩;obtain⟨G1,hA1,hs1,hm1⟩:=HT.out;have fI:=qd (HS.out G1 _ hA1);have HA1:=qd hA1;have HX:=qd (And.intro hs1 hm1);clear hA1 hs1 hm1 HT HS;go_wp2_with fail;refine fI.out.mono ?_;rintro y w2 ⟨rfl,G2,b1,b2,b3⟩;have HT:=qd (iC.comp HX.out.1 HX.out.2 ⟨G2,b1,b2,b3⟩);clear b1 b2 b3 HX HA1;go_wp2;refine bodyPost_ret (v:= .tuple #[.float .f64 0,.nilIface]) (by simp[results,Tryz.results6,go_sem]) rfl ⟨rfl,HT.out⟩
theorem acz (h:fC W0 E kd K M I tb b G w R n gv)(hkd:kd≤5)(key f r:Nat)(hk:key<18446744073709551616)(hf:f<18446744073709551616)(hn:gV f=true)(ha:Ieee.double.add ((R key).getD 0) f=some r)(hr:gV r=true)(hl:uI r=false)(hm:noRoom M (R key) n=false):Calls Tryz.prog 6 #[pQ tb,nU key,.float .f64 f] w fun y w'=>y= .returned (.tuple #[.float .f64 r,.nilIface])∧iC W0 E kd K M I tb b G w w' (wN M R n key r) (yA M (R key) n) gv:=by
 have HF:=qd (fun(W:World)=>jL f hf W);have HR:=qd (fun(W:World)=>jL r (mW ha) W);rw[hn]at HF;rw[hr]at HR;have HG:=qd (Gr h hkd key hk)
 have HS:=qd (fun(G1:List Nat) (W:World) (hA:fC W0 E kd K M I tb b G1 W R n gv)=>show Calls Tryz.prog 15 #[pQ tb,nU key,.float .f64 r] W (fun y w'=>y= .returned .nilIface∧iC W0 E kd K M I tb b G1 W w' (wN M R n key r) (yA M (R key) n) gv)from by
  have h9:=Ah hA hkd key hk r (mW ha) hl;rw[hm]at h9
  exact h9)
 have hadd:=fun t W=>CV ha t W;have hmax:=fun ts t W=>EJ (mW ha) (CU hr) ts t W;simp only[hl,Bool.false_eq_true,if_false]at hmax;clear h hn hr ha hk hl hm;go_in;go_wp2_with fail;refine(HF.out _).mono ?_;rintro y wq ⟨rfl,rfl⟩;go_wp2_with fail;refine HG.out.mono ?_;rintro y w1 ⟨rfl,hto⟩;have HT:=qd hto;clear hto HG;go_wp2_with fail;refine(HR.out _).mono ?_;rintro y wq ⟨rfl,rfl⟩;obtain⟨G1,hA1,hs1,hm1⟩:=HT.out;have fI:=qd (HS.out G1 _ hA1);have HA1:=qd hA1;have HX:=qd (And.intro hs1 hm1);clear hA1 hs1 hm1 HT HS;go_wp2_with fail;refine fI.out.mono ?_;rintro y w2 ⟨rfl,G2,b1,b2,b3⟩;have HT:=qd (iC.comp HX.out.1 HX.out.2 ⟨G2,b1,b2,b3⟩);clear b1 b2 b3 HX HA1;go_wp2;refine bodyPost_ret (v:= .tuple #[.float .f64 r,.nilIface]) (by simp[results,Tryz.results6,go_sem]) rfl ⟨rfl,HT.out⟩
theorem ab4 (h:fC W0 E kd K M I tb b G w R n gv)(hkd:kd≤5)(key f r:Nat)(hk:key<18446744073709551616)(hf:f<18446744073709551616)(hn:gV f=true)(ha:Ieee.double.add ((R key).getD 0) f=some r)(hr:gV r=true)(hl:uI r=false)(hm:noRoom M (R key) n=true):Calls Tryz.prog 6 #[pQ tb,nU key,.float .f64 f] w fun y w'=>y= .returned (.tuple #[.float .f64 0,.iface 344 (.pointer (some (E 2)))])∧iC W0 E kd K M I tb b G w w' (wN M R n key r) (yA M (R key) n) gv:=by
 have HF:=qd (fun(W:World)=>jL f hf W);have HR:=qd (fun(W:World)=>jL r (mW ha) W);rw[hn]at HF;rw[hr]at HR;have HG:=qd (Gr h hkd key hk)
 have HS:=qd (fun(G1:List Nat) (W:World) (hA:fC W0 E kd K M I tb b G1 W R n gv)=>show Calls Tryz.prog 15 #[pQ tb,nU key,.float .f64 r] W (fun y w'=>y= .returned (.iface 344 (.pointer (some (E 2))))∧iC W0 E kd K M I tb b G1 W w' (wN M R n key r) (yA M (R key) n) gv)from by
  have h9:=Ah hA hkd key hk r (mW ha) hl;rw[hm]at h9
  exact h9)
 have hadd:=fun t W=>CV ha t W;have hmax:=fun ts t W=>EJ (mW ha) (CU hr) ts t W;simp only[hl,Bool.false_eq_true,if_false]at hmax;clear h hn hr ha hk hl hm;go_in;go_wp2_with fail;refine(HF.out _).mono ?_;rintro y wq ⟨rfl,rfl⟩;go_wp2_with fail;refine HG.out.mono ?_;rintro y w1 ⟨rfl,hto⟩;have HT:=qd hto;clear hto HG;go_wp2_with fail;refine(HR.out _).mono ?_;rintro y wq ⟨rfl,rfl⟩;obtain⟨G1,hA1,hs1,hm1⟩:=HT.out;have fI:=qd (HS.out G1 _ hA1);have HA1:=qd hA1;have HX:=qd (And.intro hs1 hm1);clear hA1 hs1 hm1 HT HS;go_wp2_with fail;refine fI.out.mono ?_;rintro y w2 ⟨rfl,G2,b1,b2,b3⟩;have HT:=qd (iC.comp HX.out.1 HX.out.2 ⟨G2,b1,b2,b3⟩);clear b1 b2 b3 HX HA1;go_wp2;refine bodyPost_ret (v:= .tuple #[.float .f64 0,.iface 344 (.pointer (some (E 2)))]) (by simp[results,Tryz.results6,go_sem]) rfl ⟨rfl,HT.out⟩
end
end Go.Proofs.YtgkeameopnpinaaGreatDoor
