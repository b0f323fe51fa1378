/- The order of weights: cmp at floats, cmp.Or of two, heavier. No statement of the claim. -/
import Derived.Test.YtgkeameopnpinaaGreatDoorTyC
import Derived.Test.YtgkeameopnpinaaGreatDoorCoO
import Derived.Test.YtgkeameopnpinaaGreatDoorLaneP
import Derived.Test.YtgkeameopnpinaaGreatDoorSortW
namespace Go.Proofs.YtgkeameopnpinaaGreatDoor
set_option maxRecDepth 100000
set_option maxHeartbeats 4000000
open Go.RowKit bY rZ lH
open Go.Sort (Holds PermIn SortedIn SWO HoldsK flatK get_flatK size_flatK grow grow_grow alloc_eq_grow)
theorem JR (x:Nat)(w:World):Calls Tryz.prog 82 #[.float .f64 x] w fun y w'=>y= .returned (.bool (dX x))∧w=w':=by
 have hn:=Nv x;go_in;go_wp2;refine bodyPost_ret (v:= .bool (dX x)) (by simp[results,Tryz.results82,go_sem,hn]) rfl ⟨rfl,rfl⟩
def lW (a b:Nat):Int:=if a<b then-1 else if b<a then 1 else 0
theorem vB {a:Nat}(h:a<9218868437227405312):dX a=false:=by
 unfold dX rung;exact decide_eq_false (by omega)
theorem CW {a:Nat}(h:a<9218868437227405312):key a=(a:Int):=PN (by omega)
theorem Oq (a b:Nat)(ha:a<9218868437227405312)(hb:b<9218868437227405312)(w:World):Calls Tryz.prog 43 #[.float .f64 a,.float .f64 b] w fun e w'=>e= .returned (.int .i64 (lW a b))∧w=w':=by
 have HA:=qd (fun(W:World)=>JR a W);have HB:=qd (fun(W:World)=>JR b W)
 have hl:(FloatKind.f64.format.order a b==some .lt)=decide (a<b):=by
  rw[UY (vB ha) (vB hb),CW ha,CW hb];by_cases h:a<b
  ·rw[decide_eq_true h];exact decide_eq_true (by omega)
  ·rw[decide_eq_false h];exact decide_eq_false (by omega)
 have hg:(FloatKind.f64.format.order a b==some .gt)=decide (b<a):=by
  rw[UW (vB ha) (vB hb),CW ha,CW hb];by_cases h:b<a
  ·rw[decide_eq_true h];exact decide_eq_true (by omega)
  ·rw[decide_eq_false h];exact decide_eq_false (by omega)
 rw[vB ha]at HA;rw[vB hb]at HB;by_cases h1:a<b
 focus
  have hv:lW a b= -1:=by unfold lW;rw[if_pos h1]
  rw[hv];rw[decide_eq_true h1]at hl;clear hv h1 ha hb hg
 rotate_left
 focus
  rw[decide_eq_false h1]at hl;by_cases h2:b<a
  focus
   have hv:lW a b=1:=by unfold lW;rw[if_neg h1,if_pos h2]
   rw[hv];rw[decide_eq_true h2]at hg
  rotate_left
  focus
   have hv:lW a b=0:=by unfold lW;rw[if_neg h1,if_neg h2]
   rw[hv];rw[decide_eq_false h2]at hg
  all_goals
   clear hv h1 h2 ha hb
 all_goals
  go_in;go_wp2_with fail;refine(HA.out _).mono ?_;rintro e wq ⟨rfl,rfl⟩;go_wp2_with fail;refine(HB.out _).mono ?_;rintro e wq ⟨rfl,rfl⟩;go_wp2;go_ret;exact⟨rfl,rfl⟩
theorem U4 (x:Int)(w:World):Calls Tryz.prog 83 #[.int .u64 x] w fun y w'=>y= .returned (.bool false)∧w=w':=by
 go_in;go_wp2;go_ret;exact⟨by simp,rfl⟩
theorem Ot (x y:Nat)(w:World):Calls Tryz.prog 44 #[nU x,nU y] w fun e w'=>e= .returned (.int .i64 (lW x y))∧w=w':=by
 have HN:=qd (fun(z:Int) (W:World)=>U4 z W);by_cases h1:x<y
 focus
  have h1':(x:Int)<(y:Int):=by omega
  have hv:lW x y= -1:=by unfold lW;rw[if_pos h1]
  rw[hv];clear hv h1
 rotate_left
 focus
  have h1':¬(x:Int)<(y:Int):=by omega
  by_cases h2:y<x
  focus
   have h2':(y:Int)<(x:Int):=by omega
   have hv:lW x y=1:=by unfold lW;rw[if_neg h1,if_pos h2]
  rotate_left
  focus
   have h2':¬(y:Int)<(x:Int):=by omega
   have hv:lW x y=0:=by unfold lW;rw[if_neg h1,if_neg h2]
  all_goals
   rw[hv];clear hv h1 h2
 all_goals
  go_in;go_wp2_with fail;refine(HN.out _ _).mono ?_;rintro e wq ⟨rfl,rfl⟩;go_wp2_with fail;refine(HN.out _ _).mono ?_;rintro e wq ⟨rfl,rfl⟩;go_wp2;go_ret;exact⟨rfl,rfl⟩
theorem abU (u v:Int)(g:Nat)(w:World)(h0:w.cell? ⟨g,0,none⟩=some (.int .i64 u))(h1:w.cell? ⟨g,1,none⟩=some (.int .i64 v)):Calls Tryz.prog 42 #[.slice (some ⟨g,0,none⟩) 2 2] w fun e w'=>e= .returned (.int .i64 (if u=0 then v else u))∧w=w':=by
 by_cases hu:u=0
 ·subst hu;by_cases hv:v=0
  ·subst hv;go_in;go_wp2;refine wp_loop_rounds 3 ?_;rw[rounds_succ];go_wp2;rw[rounds_succ];go_wp2;rw[rounds_succ];go_wp2;go_ret;exact⟨rfl,rfl⟩
  ·rw[if_pos rfl];go_in;go_wp2;refine wp_loop_rounds 3 ?_;rw[rounds_succ];go_wp2;rw[rounds_succ];go_wp2;go_ret;exact⟨rfl,rfl⟩
 ·rw[if_neg hu];go_in;go_wp2;refine wp_loop_rounds 3 ?_;rw[rounds_succ];go_wp2;go_ret;exact⟨rfl,rfl⟩
def eW (p:Nat×Nat):List Value:=[nU p.1,.float .f64 (p.2 % 9218868437227405312)]
def EK (x y:Nat×Nat):Int:=if lW (y.2 % 9218868437227405312) (x.2 % 9218868437227405312)=0 then lW x.1 y.1 else lW (y.2 % 9218868437227405312) (x.2 % 9218868437227405312)
theorem Y3 (x y:Nat×Nat):ltOf EK x y=decide (y.2 % 9218868437227405312<x.2 % 9218868437227405312∨y.2 % 9218868437227405312=x.2 % 9218868437227405312∧x.1<y.1):=by
 unfold ltOf EK lW;rcases Nat.lt_trichotomy (y.2 % 9218868437227405312) (x.2 % 9218868437227405312)with h|h|h
 ·simp[h]
 ·rw[h];rcases Nat.lt_trichotomy x.1 y.1 with k|k|k
  ·simp[k]
  ·simp[k]
  ·simp[k,show¬x.1<y.1 by omega]
 ·simp[h,show¬y.2 % 9218868437227405312<x.2 % 9218868437227405312 by omega,show¬y.2 % 9218868437227405312=x.2 % 9218868437227405312 by omega]
theorem adw:SWO (ltOf EK):=⟨fun x=>by rw[Y3];simp,fun x y z h1 h2=>by rw[Y3]at*;simp at*;omega,fun x y z h1 h2=>by rw[Y3]at*;simp at*;omega⟩
theorem Ou (x y:Nat×Nat)(W:World):Calls Tryz.prog 21 #[.agg #[nU x.1,.float .f64 (x.2 % 9218868437227405312)],.agg #[nU y.1,.float .f64 (y.2 % 9218868437227405312)]] W fun e w'=>e= .returned (.int .i64 (EK x y))∧∃q os',w'=grow (W.drewN q) os':=by
 obtain⟨fx,hfx⟩:∃f,f=x.2 % 9218868437227405312:=⟨_,rfl⟩;obtain⟨fy,hfy⟩:∃f,f=y.2 % 9218868437227405312:=⟨_,rfl⟩
 have hx:fx<9218868437227405312:=by rw[hfx];exact Nat.mod_lt _ (by decide)
 have hy:fy<9218868437227405312:=by rw[hfy];exact Nat.mod_lt _ (by decide)
 unfold EK;rw[←hfx,←hfy];obtain⟨cu,DW⟩:∃c,c=lW fy fx:=⟨_,rfl⟩;obtain⟨cv,hcv⟩:∃c,c=lW x.1 y.1:=⟨_,rfl⟩;have HF:=qd (fun(V:World)=>show Calls Tryz.prog 43 #[.float .f64 fy,.float .f64 fx] V (fun e w'=>e= .returned (.int .i64 cu)∧V=w')from DW▸Oq fy fx hy hx V);have HU:=qd (fun(V:World)=>show Calls Tryz.prog 44 #[nU x.1,nU y.1] V (fun e w'=>e= .returned (.int .i64 cv)∧V=w')from hcv▸Ot x.1 y.1 V);rw[←DW,←hcv]
 obtain⟨cz,hcz⟩:∃c,c=if cu=0 then cv else cu:=⟨_,rfl⟩
 have HO:=qd (fun(g:Nat) (V:World) (h0:V.cell? ⟨g,0,none⟩=some (.int .i64 cu)) (h1:V.cell? ⟨g,1,none⟩=some (.int .i64 cv))=>show Calls Tryz.prog 42 #[.slice (some ⟨g,0,none⟩) 2 2] V (fun e w'=>e= .returned (.int .i64 cz)∧V=w')from hcz▸abU cu cv g V h0 h1);rw[←hcz];clear hfx hfy hx hy DW hcv hcz;go_in;go_upto_region 1 with fail;obtain⟨w2,hw2⟩:∃w2,w2=(W.alloc (.cells #[nU x.1,.float .f64 fx] 43)).alloc (.cells #[nU y.1,.float .f64 fy] 43):=⟨_,rfl⟩
 have hB0:aj w2 W.heap.size 43 #[nU x.1,.float .f64 fx]:=by rw[hw2];exact(aj.new W 43 _).alloc _
 have hB1:aj w2 (W.heap.size+1) 43 #[nU y.1,.float .f64 fy]:=by
  rw[hw2];have h:=aj.new (W.alloc (.cells #[nU x.1,.float .f64 fx] 43)) 43 #[nU y.1,.float .f64 fy];rw[World.size_alloc]at h;exact h
 obtain⟨b0,hb0⟩:∃b,b=W.heap.size:=⟨_,rfl⟩;obtain⟨b1,hb1⟩:∃b,b=W.heap.size+1:=⟨_,rfl⟩;rw[←hb0]at hB0;rw[←hb1]at hB1;rw[←hw2,←hb1,←hb0];have HW2:=qd hw2;have a0:=hB0.cell 0;have a1:=hB0.cell 1;have e0:=hB1.cell 0;have e1:=hB1.cell 1;simp only[gl]at a0 a1 e0 e1;clear hw2 hb0 hb1 hB0 hB1;refine rT (fun(w':World)=>(w'.cell? ⟨b0,0,none⟩=some (nU x.1)∧w'.cell? ⟨b0,1,none⟩=some (.float .f64 fx))∧w'.cell? ⟨b1,0,none⟩=some (nU y.1)∧w'.cell? ⟨b1,1,none⟩=some (.float .f64 fy)) [10] ?_;have hHeld:(fun(w':World)=>(w'.cell? ⟨b0,0,none⟩=some (nU x.1)∧w'.cell? ⟨b0,1,none⟩=some (.float .f64 fx))∧w'.cell? ⟨b1,0,none⟩=some (nU y.1)∧w'.cell? ⟨b1,1,none⟩=some (.float .f64 fy)) (World.drew w2):=⟨⟨a0,a1⟩,e0,e1⟩;refine vW 0 rfl ?_;refine vT 1 rfl ?_;refine vW 2 rfl ?_;refine vT 3 rfl ?_;refine vW 5 rfl ?_;refine vT 6 rfl ?_;refine vW 7 rfl ?_;refine vT 8 rfl ?_;refine nT 4 rfl fun K hK=> ?_;rw[if_pos (by kernel_rfl)];go_wp2_with fail;refine(HF.out _).mono ?_;rintro z wq ⟨rfl,rfl⟩;go_wp2_with fail;refine kO hK ?_;clear hK K;refine nT 9 rfl fun K hK=> ?_;rw[if_pos (by kernel_rfl)];go_wp2_with fail;refine(HU.out _).mono ?_;rintro z wq ⟨rfl,rfl⟩;go_wp2_with fail;refine kO hK ?_;clear hK K;refine nT 10 rfl fun K hK=> ?_;rw[if_pos (by kernel_rfl)];go_wp2_with fail;refine kO hK ?_;clear hK K;refine Ai (n':=[]) (k:=10) (by simp) _ _ _ _ (by kernel_rfl) ?_;clear hHeld;have hHeld:(fun(_:World)=>True) w2:=trivial;have hN:=aj.new (World.drew w2) 3 #[.int .i64 cu,.int .i64 cv];obtain⟨g0,g1⟩:=hN.c2
 refine nT 11 rfl fun K hK=> ?_;rw[if_pos (by kernel_rfl)];go_wp2_with fail;refine(HO.out _ _ g0 g1).mono ?_;rintro z wq ⟨rfl,rfl⟩;go_wp2_with fail;refine kO hK ?_;clear hK K;refine vW 12 rfl ?_;refine aQ (by kernel_rfl) ?_ _;go_wp2
 have h:∀(a b c:Obj),grow (World.drew (grow (grow W #[a]) #[b])) #[c]=grow (W.drewN 1) (#[a]++ #[b]++ #[c]):=fun a b c=>by
  rw[grow_grow];exact grow_grow (W.drewN 1) (#[a]++ #[b]) #[c]
 refine bodyPost_ret (v:= .int .i64 cz) (by simp[results,Tryz.results21,go_sem]) rfl ⟨rfl,1,_,by rw[HW2.out,alloc_eq_grow,alloc_eq_grow,alloc_eq_grow];exact h _ _ _⟩
end Go.Proofs.YtgkeameopnpinaaGreatDoor
