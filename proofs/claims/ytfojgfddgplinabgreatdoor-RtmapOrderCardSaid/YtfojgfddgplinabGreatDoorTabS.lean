/- A table in memory. -/
import Derived.Test.YtfojgfddgplinabGreatDoorCoS
import Derived.BigRegion
import Derived.Test.YtfojgfddgplinabGreatDoorSqT
import Derived.Test.YtfojgfddgplinabGreatDoorLaneP
import Derived.Test.YtfojgfddgplinabGreatDoorCoB
namespace Go.Proofs.YtfojgfddgplinabGreatDoor
set_option maxRecDepth 100000
set_option maxHeartbeats 2000000
open Go.RowKit dG Go
variable {G : ko} {gs : Tab} {i : Nat} {S : List Nat}
structure aC where
 gs : Tab
 live : Int
 bM : Int
def vO (G : ko) : List Value := eU (G.map Slot.byte) (G.map Slot.ent)
def bS (gs : Tab) : List Value := gs.flatMap vO
structure TabAt (w : World) (tb gb : Nat) (T : aC) : Prop where
 wide : pR T.gs
 tab : aj w tb 193 #[.slice (some ⟨gb, 0, none⟩) T.gs.length T.gs.length, .int .i64 T.live, .int .i64 T.bM]
 E5 : aj w gb 197 (bS T.gs).toArray
 ne : tb ≠ gb
theorem Jc (h : G.length = 8) : (vO G).length = 25 := by unfold vO eU; rw [List.length_cons, fP, List.length_map, h]
theorem E8 (h : pR gs) : (bS gs).length = gs.length * 25 := by
 induction gs with
 | nil => rfl
 | cons G gs ih =>
  have h1 := Jc (h G (by simp))
  have h2 := ih (fun X hX => h X (by simp [hX]))
  unfold bS at h2 ⊢
  rw [List.flatMap_cons, List.length_append, h1, h2, List.length_cons]; omega
theorem MR (hi : i < gs.length) : bS gs = bS (gs.take i) ++ (vO (gs.getD i []) ++ bS (gs.drop (i + 1))) := by
 conv => lhs; rw [vH (d := []) hi]
 simp [bS]
theorem Kj (hi : i < gs.length) (G : ko) : bS (gs.set i G) = bS (gs.take i) ++ (vO G ++ bS (gs.drop (i + 1))) := by
 rw [nJ hi]
 simp [bS]
theorem Uo (h : pR gs) (i : Nat) (hG : G.length = 8) : pR (gs.set i G) := fun X hX => by
 rcases List.mem_or_eq_of_mem_set hX with hX | rfl
 ·exact h X hX
 ·exact hG
section
variable {w w' : World} {tb gb : Nat} {T : aC}
theorem TabAt.aT (h : TabAt w tb gb T) : tb < w.heap.size := h.tab.lt
theorem TabAt.aU (h : TabAt w tb gb T) : gb < w.heap.size := h.E5.lt
theorem TabAt.mod (h : TabAt w tb gb T) (hm : Mod S w w') (h1 : tb ∉ S) (h2 : gb ∉ S) : TabAt w' tb gb T := ⟨h.wide, h.tab.mod hm h1, h.E5.mod hm h2, h.ne⟩
instance {w w' : World} {tb gb : Nat} {T : aC} : Md (TabAt w tb gb T) w w' (TabAt w' tb gb T) (fun S => tb ∉ S ∧ gb ∉ S) := ⟨fun h hm hs => h.mod hm hs.1 hs.2⟩
theorem TabAt.below (h : TabAt w tb gb T) (hb : Below w.heap.size w w') : TabAt w' tb gb T := h.mod (Mod.of_below hb []) (by simp) (by simp)
theorem TabAt.keep {n₀ : Nat} (h : TabAt w tb gb T) (hm : aQ n₀ S w w') (h1 : tb < n₀) (h2 : gb < n₀) (h3 : tb ∉ S) (h4 : gb ∉ S) : TabAt w' tb gb T := ⟨h.wide, hm.blk h.tab h1 h3, hm.blk h.E5 h2 h4, h.ne⟩
theorem TabAt.group (h : TabAt w tb gb T) (i : Nat) (hi : i < T.gs.length) : lM w gb 197 (bS (T.gs.take i)) (bS (T.gs.drop (i + 1))) (i * 25) (T.gs.getD i []) := by
 have hw : pR (T.gs.take i) := fun X hX => h.wide X (List.mem_of_mem_take hX)
 have h8 := h.wide.at_ hi
 refine ⟨by rw [E8 hw, List.length_take]; congr 1; omega, by simpa using h8, QA _, by simpa using h8, ?_⟩
 have := h.E5
 rw [MR hi] at this
 exact this
theorem TabAt.nQ (h : TabAt w tb gb T) (i : Nat) (hi : i < T.gs.length) (hm : Mod [gb] w w') (hG : lM w' gb 197 (bS (T.gs.take i)) (bS (T.gs.drop (i + 1))) (i * 25) G) : TabAt w' tb gb { T with gs := T.gs.set i G } := by
 refine ⟨Uo h.wide i hG.len8, ?_, ?_, h.ne⟩
 ·have := h.tab.mod hm (by simpa using h.ne)
  simpa using this
 ·show aj w' gb _ (bS (T.gs.set i G)).toArray
  rw [Kj hi]
  exact hG.blk
theorem TabAt.cells (h : TabAt w tb gb T) : w.cell? ⟨tb, 0, none⟩ = some (.slice (some ⟨gb, 0, none⟩) T.gs.length T.gs.length) ∧ w.cell? ⟨tb, 1, none⟩ = some (.int .i64 T.live) ∧ w.cell? ⟨tb, 2, none⟩ = some (.int .i64 T.bM) :=
 ⟨h.tab.cell 0, h.tab.cell 1, h.tab.cell 2⟩
theorem TabAt.zB (h : TabAt w tb gb T) (x : Int) : TabAt (w.setCell ⟨tb, 1, none⟩ (.int .i64 x)) tb gb { T with live := x } :=
 ⟨h.wide, h.tab.ak 1 _, h.E5.far (p := ⟨tb, 1, none⟩) (Ne.symm h.ne) _, h.ne⟩
theorem TabAt.Ho (h : TabAt w tb gb T) (x : Int) : TabAt (w.setCell ⟨tb, 2, none⟩ (.int .i64 x)) tb gb { T with bM := x } :=
 ⟨h.wide, h.tab.ak 2 _, h.E5.far (p := ⟨tb, 2, none⟩) (Ne.symm h.ne) _, h.ne⟩
end
def bT (tb : Nat) : Value := .pointer (some ⟨tb, 0, none⟩)
theorem qQ (tb gb : Nat) (T : aC) (w : World) (h : TabAt w tb gb T) : Calls Tryz.prog 111 #[bT tb] w fun e w' => e = .returned (.int .i64 (T.gs.length : Int)) ∧ w = w' := by
 obtain ⟨h0, h1, h2⟩ := h.cells
 clear h
 unfold bT
 go_in
 go_wp2
 go_ret
 exact ⟨rfl, rfl⟩
theorem QZ (tb gb : Nat) (T : aC) (w : World) (h : TabAt w tb gb T) : Calls Tryz.prog 109 #[bT tb] w fun e w' => e = .returned (.int .i64 T.live) ∧ w = w' := by
 obtain ⟨h0, h1, h2⟩ := h.cells
 clear h
 unfold bT
 go_in
 go_wp2
 go_ret
 exact ⟨rfl, rfl⟩
theorem MS (tb gb : Nat) (T : aC) (w : World) (h : TabAt w tb gb T) : Calls Tryz.prog 110 #[bT tb] w fun e w' => e = .returned (.int .i64 T.bM) ∧ w = w' := by
 obtain ⟨h0, h1, h2⟩ := h.cells
 clear h
 unfold bT
 go_in
 go_wp2
 go_ret
 exact ⟨rfl, rfl⟩
theorem O0 (tb gb : Nat) (T : aC) (w : World) (h : TabAt w tb gb T) (hn : T.gs.length ≤ 64) (hl : 0 ≤ T.live ∧ T.live ≤ 1000) (ht : 0 ≤ T.bM ∧ T.bM ≤ 1000) :
  Calls Tryz.prog 107 #[bT tb] w fun e w' => e = .returned (.int .i64 (7 * (T.gs.length : Int) - T.live - T.bM)) ∧ w' = w.drew := by
 obtain ⟨h0, h1, h2⟩ := h.cells
 obtain ⟨l0, l1⟩ := hl
 obtain ⟨t0, t1⟩ := ht
 clear h
 generalize T.gs.length = n at *
 generalize T.live = a at *
 generalize T.bM = b at *
 unfold bT
 go_in
 go_upto_region 1 with fail
 go_region
 go_wp2
 go_ret
 exact ⟨gF (by omega), rfl⟩
end Go.Proofs.YtfojgfddgplinabGreatDoor

/-! A table's spots: what is found there, what is written. -/
namespace Go.Proofs.YtfojgfddgplinabGreatDoor
set_option maxRecDepth 100000
set_option maxHeartbeats 2000000
open Go.RowKit dG Go
def E9 (p : Option Addr) (s : Int) : Value := .agg #[.pointer p, .int .i64 s]
def bQ (tb key hash : Nat) (ap : Option Addr) (YH : Int) (fp : Option Addr) (fs : Int) : Value := .agg #[.pointer (some ⟨tb, 0, none⟩), .int .u64 (key : Int), .int .u64 (hash : Int), .pointer ap, .int .i64 YH, .pointer fp, .int .i64 fs]
def iq (T : aC) (i s : Nat) : aC := { gs := putAt T.gs i s (if dD (T.gs.getD i []) then .empty else .oP), live := T.live - 1, bM := if dD (T.gs.getD i []) then T.bM else T.bM + 1 }
def jk (T : aC) (i s : Nat) (e : av) : aC := { gs := putAt T.gs i s (.full e), live := T.live + 1, bM := if (aD T.gs i s).ig then T.bM - 1 else T.bM }
def replaceM (T : aC) (i s : Nat) (v : Nat) (e : av) : aC := { T with gs := putAt T.gs i s (.full { e with val := v }) }
structure Small (T : aC) : Prop where
 l0 : 0 ≤ T.live
 l1 : T.live ≤ 1000
 t0 : 0 ≤ T.bM
 t1 : T.bM ≤ 1000
 n1 : T.gs.length ≤ 64
theorem Dk (tb gb : Nat) (T : aC) (i s : Nat) (hi : i < T.gs.length) (hs : s < 8) (e : av) (he : aD T.gs i s = .full e) (hS : Small T) (w : World) (h : TabAt w tb gb T) :
  Calls Tryz.prog 169 #[bT tb, E9 (some ⟨gb, i * 25, none⟩) (s : Int)] w fun x w' => x = .returned .nilIface ∧ TabAt w' tb gb (iq T i s) ∧ Mod [tb, gb] w w' := by
 have hB := (Below.refl w.heap.size w).alloc (Nat.le_refl _) (.cells #[.pointer (some ⟨gb, i * 25, none⟩), .int .i64 (s : Int)] 157)
 have hV := aj.new w 157 #[.pointer (some ⟨gb, i * 25, none⟩), .int .i64 (s : Int)]
 obtain ⟨W, hW⟩ : ∃ W, W = w.alloc (.cells #[.pointer (some ⟨gb, i * 25, none⟩), .int .i64 (s : Int)] 157) := ⟨_, rfl⟩
 rw [← hW] at hB hV
 have nA := h.below hB
 have hGW := nA.group i hi
 have HE := qd (QY gb 197 (bS (T.gs.take i)) (bS (T.gs.drop (i + 1))) (i * 25) (T.gs.getD i []) W hGW s hs e he)
 have HW := qd hW
 have HB := qd hB
 obtain ⟨l0, l1, t0, t1, n1⟩ := hS
 have hi0 : (0 : Int) ≤ (i : Int) := by omega
 unfold bA at HE
 unfold bT E9
 clear hW h hB hGW he n1
 cases ho : dD (T.gs.getD i []) with
 | true =>
  rw [ho] at HE
  simp only [Bool.not_true, if_true] at HE
  have HO := qd ho
  clear ho
  go_in
  go_upto_region 1 with fail
  rw [← HW.out]
  have v := hV.c2
  go_wp2_with fail
  refine (HE.out).mono ?_
  rintro x w1 ⟨rfl, hG1, hm1⟩
  have hT1 := nA.nQ i hi hm1 hG1
  obtain ⟨c0, c1, c2⟩ := hT1.cells
  have f1 := hT1.tab.frozen 1
  have f2 := hT1.tab.frozen 2
  have jW := hT1.zB (T.live - 1)
  have hM2 := ((((Mod.of_below HB.out [tb, gb]).then (hm1.more (by simp))).sl 1 (.int .i64 (T.live - 1))))
  have HP := qd (And.intro jW hM2)
  clear jW hM2 hT1 nA hG1 hm1 hV
  go_wp2
  go_ret
  refine ⟨rfl, ?_, HP.out.2⟩
  have := HP.out.1
  unfold iq putAt
  rw [HO.out]
  exact this
 | false =>
  rw [ho] at HE
  simp only [Bool.not_false, Bool.false_eq_true, if_false] at HE
  have HO := qd ho
  clear ho
  go_in
  go_upto_region 1 with fail
  rw [← HW.out]
  have v := hV.c2
  go_wp2_with fail
  refine (HE.out).mono ?_
  rintro x w1 ⟨rfl, hG1, hm1⟩
  have hT1 := nA.nQ i hi hm1 hG1
  obtain ⟨c0, c1, c2⟩ := hT1.cells
  have f1 := hT1.tab.frozen 1
  have f2 := hT1.tab.frozen 2
  have jW := hT1.zB (T.live - 1)
  have hM2 := ((((Mod.of_below HB.out [tb, gb]).then (hm1.more (by simp))).sl 1 (.int .i64 (T.live - 1))))
  have Aj := jW.Ho (T.bM + 1)
  have wY := hM2.sl 2 (.int .i64 (T.bM + 1))
  have HP := qd (And.intro Aj wY)
  clear Aj wY jW hM2 hT1 nA hG1 hm1 hV
  go_wp2
  go_ret
  refine ⟨rfl, ?_, HP.out.2⟩
  have := HP.out.1
  unfold iq putAt
  rw [HO.out]
  exact this
theorem Fa (tb key hash : Nat) (ap fp : Option Addr) (fs : Int) (w : World) :
  Calls Tryz.prog 68 #[bQ tb key hash ap (-1) fp fs] w fun x w' => x = .returned (.tuple #[aM ⟨0, 0, 0⟩, .bool false]) ∧ Below w.heap.size w w' := by
 obtain ⟨W, hW, hB, hV, hD⟩ := lK w 159 #[.pointer (some ⟨tb, 0, none⟩), .int .u64 (key : Int), .int .u64 (hash : Int), .pointer ap, .int .i64 (-1), .pointer fp, .int .i64 fs] 37 #[.int .u64 0, .int .u64 0, .int .u64 0]
 obtain ⟨d0, d1, d2⟩ := hD.c3
 obtain ⟨f0, f1, f2⟩ := hD.f3
 obtain ⟨v0, v1, v2, v3, v4, v5, v6⟩ := hV.c7
 have HW := qd hW
 have HB := qd hB
 unfold bQ aM
 clear hW hB hV hD
 go_in
 go_upto_region 1 with fail
 rw [← HW.out]
 go_wp2
 refine bodyPost_ret (v := .tuple #[.agg #[.int .u64 0, .int .u64 0, .int .u64 0], .bool false]) ?_ rfl ⟨rfl, ?_⟩
 ·simp [results, Tryz.results68, go_sem, d0, d1, d2]
 ·repeat (with_reducible first | exact HB.out | refine Below.setCell ?_ ?_ _)
  all_goals (simp; try omega)
theorem Fb (tb key hash gb : Nat) (fp : Option Addr) (fs : Int) (T : aC) (i s : Nat) (hi : i < T.gs.length) (hs : s < 8) (e : av) (he : aD T.gs i s = .full e) (w : World) (h : TabAt w tb gb T) :
  Calls Tryz.prog 68 #[bQ tb key hash (some ⟨gb, i * 25, none⟩) (s : Int) fp fs] w fun x w' => x = .returned (.tuple #[aM e, .bool true]) ∧ Below w.heap.size w w' := by
 obtain ⟨W, hW, hB, hV, hD⟩ := lK w 159 #[.pointer (some ⟨tb, 0, none⟩), .int .u64 (key : Int), .int .u64 (hash : Int), .pointer (some ⟨gb, i * 25, none⟩), .int .i64 (s : Int), .pointer fp, .int .i64 fs] 37 #[.int .u64 0, .int .u64 0, .int .u64 0]
 obtain ⟨v0, v1, v2, v3, v4, v5, v6⟩ := hV.c7
 have nA := h.below hB
 have HE := qd (Di gb 197 (bS (T.gs.take i)) (bS (T.gs.drop (i + 1))) (i * 25) (T.gs.getD i []) W (nA.group i hi) s hs e he)
 have HW := qd hW
 have HB := qd hB
 have hs0 : ¬ (s : Int) < 0 := by omega
 unfold bA aM at HE
 unfold bQ aM
 clear hW hB hV h nA he
 go_in
 go_upto_region 1 with fail
 rw [← HW.out]
 go_wp2_with fail
 refine (HE.out).mono ?_
 rintro x w1 ⟨rfl, hb⟩
 have hD1 := hD.below hb hD.lt
 obtain ⟨d0, d1, d2⟩ := hD1.c3
 obtain ⟨f0, f1, f2⟩ := hD1.f3
 have hB1 := qd (bE hb HB.out)
 clear hb hD
 go_wp2
 refine bodyPost_ret (v := .tuple #[.agg #[.int .u64 (e.key : Int), .int .u64 (e.val : Int), .int .u64 (e.hash : Int)], .bool true]) ?_ rfl ⟨rfl, ?_⟩
 ·simp [results, Tryz.results68, go_sem, d0, d1, d2]
 ·repeat (with_reducible first | exact hB1.out | refine Below.setCell ?_ ?_ _)
  all_goals (simp; try omega)
theorem Bc (tb key hash gb : Nat) (fp : Option Addr) (fs : Int) (T : aC) (i s v : Nat) (hi : i < T.gs.length) (hs : s < 8) (e : av) (he : aD T.gs i s = .full e) (w : World) (h : TabAt w tb gb T) :
  Calls Tryz.prog 69 #[bQ tb key hash (some ⟨gb, i * 25, none⟩) (s : Int) fp fs, .int .u64 (v : Int)] w fun x w' => x = .returned .nilIface ∧ TabAt w' tb gb (replaceM T i s v e) ∧ Mod [tb, gb] w w' := by
 have hB := (Below.refl w.heap.size w).alloc (Nat.le_refl _) (.cells #[.pointer (some ⟨tb, 0, none⟩), .int .u64 (key : Int), .int .u64 (hash : Int), .pointer (some ⟨gb, i * 25, none⟩), .int .i64 (s : Int), .pointer fp, .int .i64 fs] 159)
 have hV := aj.new w 159 #[.pointer (some ⟨tb, 0, none⟩), .int .u64 (key : Int), .int .u64 (hash : Int), .pointer (some ⟨gb, i * 25, none⟩), .int .i64 (s : Int), .pointer fp, .int .i64 fs]
 obtain ⟨W, hW⟩ : ∃ W, W = w.alloc (.cells #[.pointer (some ⟨tb, 0, none⟩), .int .u64 (key : Int), .int .u64 (hash : Int), .pointer (some ⟨gb, i * 25, none⟩), .int .i64 (s : Int), .pointer fp, .int .i64 fs] 159) := ⟨_, rfl⟩
 rw [← hW] at hB hV
 obtain ⟨v0, v1, v2, v3, v4, v5, v6⟩ := hV.c7
 have nA := h.below hB
 have HE := qd (XV gb 197 (bS (T.gs.take i)) (bS (T.gs.drop (i + 1))) (i * 25) (T.gs.getD i []) W (nA.group i hi) s hs v e he)
 have HT := qd nA
 have HW := qd hW
 have HB := qd hB
 have hs0 : ¬ (s : Int) < 0 := by omega
 unfold bA at HE
 unfold bQ
 clear hW hB hV h nA he
 go_in
 go_upto_region 1 with fail
 rw [← HW.out]
 go_wp2_with fail
 refine (HE.out).mono ?_
 rintro x w1 ⟨rfl, hG1, hm1⟩
 have HP := qd (And.intro (HT.out.nQ i hi hm1 hG1) ((Mod.of_below HB.out [tb, gb]).then (hm1.more (by simp))))
 clear hG1 hm1
 go_wp2
 go_ret
 exact ⟨rfl, HP.out.1, HP.out.2⟩
theorem Dl (tb key hash gb : Nat) (fp : Option Addr) (fs : Int) (T : aC) (i s : Nat) (hi : i < T.gs.length) (hs : s < 8) (e : av) (he : aD T.gs i s = .full e) (hS : Small T) (w : World) (h : TabAt w tb gb T) :
  Calls Tryz.prog 133 #[bQ tb key hash (some ⟨gb, i * 25, none⟩) (s : Int) fp fs] w fun x w' => x = .returned .nilIface ∧ TabAt w' tb gb (iq T i s) ∧ Mod [tb, gb] w w' := by
 have hB := (Below.refl w.heap.size w).alloc (Nat.le_refl _) (.cells #[.pointer (some ⟨tb, 0, none⟩), .int .u64 (key : Int), .int .u64 (hash : Int), .pointer (some ⟨gb, i * 25, none⟩), .int .i64 (s : Int), .pointer fp, .int .i64 fs] 159)
 have hV := aj.new w 159 #[.pointer (some ⟨tb, 0, none⟩), .int .u64 (key : Int), .int .u64 (hash : Int), .pointer (some ⟨gb, i * 25, none⟩), .int .i64 (s : Int), .pointer fp, .int .i64 fs]
 obtain ⟨W, hW⟩ : ∃ W, W = w.alloc (.cells #[.pointer (some ⟨tb, 0, none⟩), .int .u64 (key : Int), .int .u64 (hash : Int), .pointer (some ⟨gb, i * 25, none⟩), .int .i64 (s : Int), .pointer fp, .int .i64 fs] 159) := ⟨_, rfl⟩
 rw [← hW] at hB hV
 obtain ⟨v0, v1, v2, v3, v4, v5, v6⟩ := hV.c7
 have HE := qd (Dk tb gb T i s hi hs e he hS W (h.below hB))
 have HW := qd hW
 have HB := qd hB
 have hs0 : ¬ (s : Int) < 0 := by omega
 unfold bT E9 at HE
 unfold bQ
 clear hW hB hV h he hS
 go_in
 go_upto_region 1 with fail
 rw [← HW.out]
 go_wp2_with fail
 refine (HE.out).mono ?_
 rintro x w1 ⟨rfl, hG1, hm1⟩
 have HP := qd (And.intro hG1 ((Mod.of_below HB.out [tb, gb]).then hm1))
 clear hG1 hm1
 go_wp2
 go_ret
 exact ⟨rfl, HP.out.1, HP.out.2⟩
theorem zC (tb gb : Nat) (ap : Option Addr) (T : aC) (i s : Nat) (e : av) (hi : i < T.gs.length) (hs : s < 8) (h64 : e.hash < 18446744073709551616) (he : (aD T.gs i s).isFull = false) (hS : Small T) (hroom : T.live + T.bM + 1 ≤ 7 * (T.gs.length : Int)) (w : World) (h : TabAt w tb gb T) :
  Calls Tryz.prog 70 #[bQ tb e.key e.hash ap (-1) (some ⟨gb, i * 25, none⟩) (s : Int), aM e] w fun x w' => x = .returned .nilIface ∧ TabAt w' tb gb (jk T i s e) ∧ Mod [tb, gb] w w' := by
 obtain ⟨W, hW, hB, hV, hE⟩ := lK w 159 #[.pointer (some ⟨tb, 0, none⟩), .int .u64 (e.key : Int), .int .u64 (e.hash : Int), .pointer ap, .int .i64 (-1), .pointer (some ⟨gb, i * 25, none⟩), .int .i64 (s : Int)] 37 #[.int .u64 (e.key : Int), .int .u64 (e.val : Int), .int .u64 (e.hash : Int)]
 have v := hV.c7
 obtain ⟨e0, e1, e2⟩ := hE.c3
 have nA := h.below hB
 have htl := h.aT
 have hgl := h.aU
 have HT := qd (nA.below (Below.refl _ _).drew)
 have HE := qd (XU gb 197 (bS (T.gs.take i)) (bS (T.gs.drop (i + 1))) (i * 25) (T.gs.getD i []) W.drew (HT.out.group i hi) s hs e h64 he)
 have HL := qd (O0 tb gb T W nA hS.n1 ⟨hS.l0, hS.l1⟩ ⟨hS.t0, hS.t1⟩)
 have HW := qd hW
 have HB := qd hB
 have hs0 : ¬ (s : Int) < 0 := by omega
 have hlf : ¬ 7 * (T.gs.length : Int) - T.live - T.bM < 1 := by omega
 have hne : w.heap.size ≠ gb := by omega
 obtain ⟨l0, l1, t0, t1, n1⟩ := hS
 rw [show (T.gs.getD i []).getD s .empty = aD T.gs i s from rfl] at HE
 unfold bA aM at HE
 unfold bT at HL
 unfold bQ aM
 clear hW hB h nA he n1 hroom h64 hE
 cases ho : (aD T.gs i s).ig with
 | true =>
  rw [ho] at HE
  have HO := qd ho
  clear ho
  go_in
  go_upto_region 1 with fail
  rw [← HW.out]
  go_wp2_with fail
  refine (HL.out).mono ?_
  rintro x w1 ⟨rfl, rfl⟩
  go_wp2_with fail
  refine (HE.out).mono ?_
  rintro x w1 ⟨rfl, hG1, hm1⟩
  have hT1 := HT.out.nQ i hi hm1 hG1
  obtain ⟨c0, c1, c2⟩ := hT1.cells
  have f1 := hT1.tab.frozen 1
  have f2 := hT1.tab.frozen 2
  have Q0 := hV.drew.mod hm1 (by simpa using hne)
  have v := Q0.c7
  have jW := hT1.zB (T.live + 1)
  have hM2 := ((((Mod.of_below HB.out.drew [tb, gb]).then (hm1.more (by simp))).sl 1 (.int .i64 (T.live + 1))))
  have Aj := jW.Ho (T.bM - 1)
  have wY := hM2.sl 2 (.int .i64 (T.bM - 1))
  have HP := qd (And.intro Aj wY)
  clear Aj wY jW hM2 hT1 hG1 hm1 Q0 hV
  go_wp2
  go_ret
  refine ⟨rfl, ?_, HP.out.2⟩
  have := HP.out.1
  unfold jk putAt
  rw [HO.out]
  exact this
 | false =>
  rw [ho] at HE
  have HO := qd ho
  clear ho
  go_in
  go_upto_region 1 with fail
  rw [← HW.out]
  go_wp2_with fail
  refine (HL.out).mono ?_
  rintro x w1 ⟨rfl, rfl⟩
  go_wp2_with fail
  refine (HE.out).mono ?_
  rintro x w1 ⟨rfl, hG1, hm1⟩
  have hT1 := HT.out.nQ i hi hm1 hG1
  obtain ⟨c0, c1, c2⟩ := hT1.cells
  have f1 := hT1.tab.frozen 1
  have f2 := hT1.tab.frozen 2
  have Q0 := hV.drew.mod hm1 (by simpa using hne)
  have v := Q0.c7
  have jW := hT1.zB (T.live + 1)
  have hM2 := ((((Mod.of_below HB.out.drew [tb, gb]).then (hm1.more (by simp))).sl 1 (.int .i64 (T.live + 1))))
  have HP := qd (And.intro jW hM2)
  clear jW hM2 hT1 hG1 hm1 Q0 hV
  go_wp2
  go_ret
  refine ⟨rfl, ?_, HP.out.2⟩
  have := HP.out.1
  unfold jk putAt
  rw [HO.out]
  exact this
end Go.Proofs.YtfojgfddgplinabGreatDoor

/-! Seeking over a list of groups. No program in sight. -/
namespace Go.Proofs.YtfojgfddgplinabGreatDoor.dG
set_option maxRecDepth 100000
set_option maxHeartbeats 2000000
open Go.RowKit dG Go
variable {gs : Tab} {hash i key : Nat} {pre rest : List Nat}
def jH (gs : Tab) (key hash : Nat) : List Nat → Option (Nat × Nat) → Option (Nat × Nat) × Option (Nat × Nat) × Nat
 | [], fr => (none, fr, 0)
 | i :: is, fr =>
  match fT (gs.getD i []) key hash with
  | some s => (some (i, s), gY fr i (gs.getD i []), 1)
  | none => if dD (gs.getD i []) then (none, gY fr i (gs.getD i []), 1) else
   let r := jH gs key hash is (gY fr i (gs.getD i []))
   (r.1, r.2.1, r.2.2 + 1)
theorem Ak (gs : Tab) (key hash : Nat) : ∀ f j fr, iF gs key hash f j fr = jH gs key hash ((List.range f).map fun k => bV (hash / 128) gs.length (j + k)) fr
 | 0, _, _ => rfl
 | f + 1, j, fr => by
  rw [List.range_succ_eq_map, List.map_cons, List.map_map]
  have ih := Ak gs key hash f (j + 1)
  unfold iF jH
  simp only [Nat.add_zero]
  have he : (List.range f).map ((fun k => bV (hash / 128) gs.length (j + k)) ∘ Nat.succ) = (List.range f).map fun k => bV (hash / 128) gs.length (j + 1 + k) := by
   apply List.map_congr_left; intro k _; simp [Nat.succ_eq_add_one, Nat.add_assoc, Nat.add_comm 1 k]
  rw [he]
  cases hf : fT (gs.getD (bV (hash / 128) gs.length j) []) key hash with
  | some s => rfl
  | none =>
   cases ho : dD (gs.getD (bV (hash / 128) gs.length j) []) with
   | true => rfl
   | false =>
    simp only [Bool.false_eq_true, if_false]
    rw [ih]
theorem xq (gs : Tab) (key hash : Nat) : aH gs key hash = jH gs key hash (walk (hash / 128) gs.length) none := by
 unfold aH walk
 rw [Ak]
 congr 1
 apply List.map_congr_left; intro k _; rw [Nat.zero_add]
def eO (gs : Tab) (pre : List Nat) : Option (Nat × Nat) := pre.foldl (fun fr i => gY fr i (gs.getD i [])) none
theorem sO (gs : Tab) (pre : List Nat) (i : Nat) : eO gs (pre ++ [i]) = gY (eO gs pre) i (gs.getD i []) := by simp [eO]
def Passed (gs : Tab) (key hash : Nat) (i : Nat) : Prop := fT (gs.getD i []) key hash = none ∧ dD (gs.getD i []) = false
theorem sP (gs : Tab) (key hash : Nat) : ∀ (pre rest : List Nat) (fr : Option (Nat × Nat)), (∀ i ∈ pre, Passed gs key hash i) →
  jH gs key hash (pre ++ rest) fr = let r := jH gs key hash rest (pre.foldl (fun fr i => gY fr i (gs.getD i [])) fr); (r.1, r.2.1, r.2.2 + pre.length)
 | [], rest, fr, _ => by simp
 | i :: pre, rest, fr, h => by
  obtain ⟨h1, h2⟩ := h i (by simp)
  have ih := sP gs key hash pre rest (gY fr i (gs.getD i [])) (fun x hx => h x (by simp [hx]))
  rw [List.cons_append, jH, h1]
  simp only [h2, Bool.false_eq_true, if_false]
  rw [ih]
  simp only [List.foldl_cons, List.length_cons, Nat.add_assoc]
theorem Uq (he : pre = walk (hash / 128) gs.length) (h : ∀ i ∈ pre, Passed gs key hash i) : aH gs key hash = (none, eO gs pre, pre.length) := by
 rw [xq, ← he]
 have := sP gs key hash pre [] none h
 rw [List.append_nil] at this
 rw [this]
 simp [jH, eO]
theorem Ur {s : Nat} (he : pre ++ i :: rest = walk (hash / 128) gs.length) (h : ∀ i ∈ pre, Passed gs key hash i) (hf : fT (gs.getD i []) key hash = some s) : aH gs key hash = (some (i, s), eO gs (pre ++ [i]), (pre ++ [i]).length) := by
 rw [xq, ← he, sP gs key hash pre _ none h, sO]
 unfold jH
 rw [hf]
 simp only [List.length_append, List.length_cons, List.length_nil, Nat.zero_add, Nat.add_comm 1]
 rfl
theorem Q5 (he : pre ++ i :: rest = walk (hash / 128) gs.length) (h : ∀ i ∈ pre, Passed gs key hash i) (hf : fT (gs.getD i []) key hash = none) (ho : dD (gs.getD i []) = true) : aH gs key hash = (none, eO gs (pre ++ [i]), (pre ++ [i]).length) := by
 rw [xq, ← he, sP gs key hash pre _ none h, sO]
 unfold jH
 rw [hf]
 simp only [ho, if_true, List.length_append, List.length_cons, List.length_nil, Nat.zero_add, Nat.add_comm 1]
 rfl
end Go.Proofs.YtfojgfddgplinabGreatDoor.dG
