/- What a map lets go a few at a time, and what it counts. No statement of the claim. -/
import Derived.Test.YtgfcmdmpegomdaaGreatDoorCoO
import Derived.Test.YtgfcmdmpegomdaaGreatDoorSqM
import Derived.Test.YtgfcmdmpegomdaaGreatDoorLaneP
import Derived.Test.YtgfcmdmpegomdaaGreatDoorCoEnv
import Derived.Test.YtgfcmdmpegomdaaGreatDoorCoBO
import Derived.Test.YtgfcmdmpegomdaaGreatDoorCoDA
import Derived.Test.YtgfcmdmpegomdaaGreatDoorAppAny
import Derived.Defers
import Derived.Recover
import Derived.MapKept
import Derived.ChangeMaps5
import Derived.WideLaws
namespace Go.Proofs.YtgfcmdmpegomdaaGreatDoor
set_option maxRecDepth 100000
set_option maxHeartbeats 4000000
open Go.RowKit AmC Go.MapKept
open Go.ChangeMaps (setBlock heap_setBlock_same heap_setBlock_other)
section
section
variable {w : World} {b o : Nat} {t : TypeId} {cs : Array Value}
theorem led_Spend {n : Nat} (hp : 1 ≤ n ∧ n ≤ 1099511627776) (h : Blk w b t cs) (hn : cs[o]? = some (.int .i64 (n : Int))) : Calls Tryz.prog 167 #[.pointer (some ⟨b, o, none⟩), .int .i64 1] w fun e w' => e = .returned (.bool true) ∧ Blk w' b t (cs.setIfInBounds o (.int .i64 ((n - 1 : Nat) : Int))) ∧ Mod [b] w w' := by
 obtain ⟨b0, b1⟩ := hp
 have hx1 : ¬ (1 : Int) > (n : Int) := by omega
 have c0 := (h.cell o).trans hn
 have f0 := h.frozen o
 have HS := qd (And.intro (h.set_ o (.int .i64 ((n - 1 : Nat) : Int))) ((Mod.refl [b] w).sl o (.int .i64 ((n - 1 : Nat) : Int))))
 have he : (n : Int) - 1 = ((n - 1 : Nat) : Int) := by omega
 clear h hn
 go_in
 go_wp2
 go_ret
 exact ⟨rfl, HS.out⟩
theorem led_Spend_no (h : Blk w b t cs) (hn : cs[o]? = some (.int .i64 0)) : Calls Tryz.prog 167 #[.pointer (some ⟨b, o, none⟩), .int .i64 1] w fun e w' => e = .returned (.bool false) ∧ w = w' := by
 have c0 := (h.cell o).trans hn
 clear h hn
 go_in
 go_wp2
 go_ret
 exact ⟨rfl, rfl⟩
theorem led_Deposit {n k : Nat} (hp : n ≤ 1099511627776 ∧ k ≤ 1099511627776) (h : Blk w b t cs) (hn : cs[o]? = some (.int .i64 (n : Int))) : Calls Tryz.prog 168 #[.pointer (some ⟨b, o, none⟩), .int .i64 (k : Int)] w fun e w' => ∃ d, d ≤ k ∧ n + d ≤ 1099511627776 ∧ e = .returned (.int .i64 (d : Int)) ∧ Blk w' b t (cs.setIfInBounds o (.int .i64 ((n + d : Nat) : Int))) ∧ Mod [b] w w' := by
 obtain ⟨b0, b1⟩ := hp
 have c0 := (h.cell o).trans hn
 have f0 := h.frozen o
 have HS := qd (fun u => And.intro (h.set_ o u) ((Mod.refl [b] w).sl o u))
 have hw1 : IntKind.i64.wrap (1099511627776 - (n : Int)) = ((1099511627776 - n : Nat) : Int) := by rw [IntKind.wrap_i64]; omega
 have hx0 : ¬ (k : Int) < 0 := by omega
 clear h hn
 by_cases hk : k ≤ 1099511627776 - n
 ·have hx1 : ¬ ((1099511627776 - n : Nat) : Int) < (k : Int) := by omega
  have hw2 : IntKind.i64.wrap ((n : Int) + (k : Int)) = ((n + k : Nat) : Int) := by rw [IntKind.wrap_i64]; omega
  go_in
  go_wp2
  go_ret
  exact ⟨k, Nat.le_refl _, by omega, rfl, HS.out _⟩
 ·obtain ⟨d, hd⟩ : ∃ d, d = 1099511627776 - n := ⟨_, rfl⟩
  rw [← hd] at hw1
  have hx1 : (d : Int) < (k : Int) := by omega
  have hw2 : IntKind.i64.wrap ((n : Int) + (d : Int)) = ((n + d : Nat) : Int) := by rw [IntKind.wrap_i64]; omega
  have HD := qd (show d ≤ k ∧ n + d ≤ 1099511627776 from by omega)
  clear hd hk
  go_in
  go_wp2
  go_ret
  exact ⟨d, HD.out.1, HD.out.2, rfl, HS.out _⟩
end
structure RmC where
 k : Int
 m : Int
 i : Int
 cb : Nat
 lf : Nat
 gn : Nat
 ma : Cnt
 ml : Cnt
 ib : Nat
 last : Cnt
 all : Cnt
def RmC.cells (c : RmC) : Array Value := #[.int .i64 c.k, .int .i64 c.m, .int .i64 c.i, .pointer (some ⟨c.cb, 0, none⟩), .int .i64 (c.lf : Int), .float .f64 0, .int .i64 (c.gn : Int), .float .f64 0, .int .i64 c.ma.p, .int .i64 c.ma.v, .int .i64 c.ma.u, .int .i64 c.ml.p, .int .i64 c.ml.v, .int .i64 c.ml.u, .bool false, .int .i64 0, .pointer (some ⟨c.ib, 0, none⟩), .int .i64 c.last.p, .int .i64 c.last.v, .int .i64 c.last.u, .int .i64 c.all.p, .int .i64 c.all.v, .int .i64 c.all.u]
structure RmB (w : World) (b : Nat) (c : RmC) : Prop where
 blk : Blk w b 75 c.cells
 lf : c.lf ≤ 1099511627776
 gn : c.gn ≤ 1099511627776
def rmPre (c : RmC) : List Value := [.int .i64 c.k, .int .i64 c.m, .int .i64 c.i, .pointer (some ⟨c.cb, 0, none⟩), .int .i64 (c.lf : Int), .float .f64 0, .int .i64 (c.gn : Int), .float .f64 0]
def rmPost (c : RmC) : List Value := [.pointer (some ⟨c.ib, 0, none⟩), .int .i64 c.last.p, .int .i64 c.last.v, .int .i64 c.last.u, .int .i64 c.all.p, .int .i64 c.all.v, .int .i64 c.all.u]
theorem rm_met {w : World} {b : Nat} {c : RmC} (h : Blk w b 75 c.cells) : Met w b 75 (rmPre c) (rmPost c) 8 c.ma c.ml 0 := ⟨rfl, h⟩
theorem rm_of {w : World} {b : Nat} {c : RmC} {a l : Cnt} (h : Met w b 75 (rmPre c) (rmPost c) 8 a l 0) : Blk w b 75 ({ c with ma := a, ml := l } : RmC).cells := h.blk
theorem RmB.lt {w : World} {b : Nat} {c : RmC} (h : RmB w b c) : b < w.heap.size := h.blk.lt
theorem RmB.mod {S : List Nat} {w w' : World} {b : Nat} {c : RmC} (h : RmB w b c) (hm : Mod S w w') (hb : b ∉ S) : RmB w' b c := ⟨h.blk.mod hm hb, h.lf, h.gn⟩
instance {w w' : World} {b : Nat} {c : RmC} : Md (RmB w b c) w w' (RmB w' b c) (fun S => b ∉ S) := ⟨fun h hm hs => RmB.mod h hm hs⟩
def Washed (w : World) (b : Nat) (c : RmC) (w' : World) : Prop := ∃ (lf gn : Nat) (ma ml : Cnt), lf ≤ c.lf ∧ RmB w' b { c with lf := lf, gn := gn, ma := ma, ml := ml } ∧ Mod [b] w w'
section
variable {w : World} {b : Nat} {c : RmC}
theorem wash_Step (h : RmB w b c) : Calls Tryz.prog 107 #[.pointer (some ⟨b, 4, none⟩), .pointer (some ⟨b, 8, none⟩)] w fun e w' => ∃ x, e = .returned (.bool x) ∧ Washed w b c w' := by
 by_cases hz : c.lf = 0
 ·have HL := qd (led_Spend_no (o := 4) h.blk (by show some (Value.int .i64 (c.lf : Int)) = _; rw [hz]; rfl))
  have HF := qd (show Washed w b c w from ⟨c.lf, c.gn, c.ma, c.ml, Nat.le_refl _, h, Mod.refl _ _⟩)
  clear h hz
  go_in
  go_wp2_with fail
  refine HL.out.mono ?_
  rintro y w1 ⟨rfl, rfl⟩
  go_wp2
  go_ret
  exact ⟨false, rfl, HF.out⟩
 ·have HL := qd (led_Spend (o := 4) (n := c.lf) ⟨by omega, h.lf⟩ h.blk rfl)
  have HG := qd h.gn
  have HF := qd h.lf
  clear h hz
  go_in
  go_wp2_with fail
  refine HL.out.mono ?_
  rintro y w1 ⟨rfl, h1, m1⟩
  have HU := qd (meter_Unit b _ _ _ 8 _ _ 0 1 (by omega) w1 (rm_met (c := { c with lf := c.lf - 1 }) h1))
  have HM := qd m1
  clear h1 m1 HL
  go_wp2_with fail
  refine HU.out.mono ?_
  rintro y w2 ⟨rfl, h2, m2⟩
  have h3 := rm_of (c := { c with lf := c.lf - 1 }) h2
  have HD := qd (led_Deposit (o := 6) (n := c.gn) (k := 1) ⟨HG.out, by omega⟩ h3 rfl)
  replace HM := qd (HM.out.then m2)
  simp only [Int.natCast_one] at HD
  clear h2 m2 h3 HU
  go_wp2_with fail
  refine HD.out.mono ?_
  rintro y w3 ⟨d, d1, d2, rfl, d3, d4⟩
  have HE := qd (show Washed w b c w3 from ⟨c.lf - 1, c.gn + d, _, _, Nat.sub_le _ _, ⟨d3, Nat.le_trans (Nat.sub_le _ _) HF.out, d2⟩, HM.out.then d4⟩)
  clear d1 d2 d3 d4 HD
  go_wp2
  go_ret
  exact ⟨true, rfl, HE.out⟩
theorem Washed.next {w1 w2 : World} (h : Washed w b c w1) (hn : ∀ c', RmB w1 b c' → Washed w1 b c' w2) : Washed w b c w2 := by
 obtain ⟨lf, gn, ma, ml, h1, h2, h3⟩ := h
 obtain ⟨lf', gn', ma', ml', k1, k2, k3⟩ := hn _ h2
 exact ⟨lf', gn', ma', ml', Nat.le_trans k1 h1, k2, h3.then k3⟩
theorem wash_Spend (h : RmB w b c) (n : Nat) (hn : n ≤ 1000) : Calls Tryz.prog 75 #[.pointer (some ⟨b, 4, none⟩), .pointer (some ⟨b, 8, none⟩), .int .i64 (n : Int)] w fun e w' => ∃ d : Nat, e = .returned (.int .i64 (d : Int)) ∧ Washed w b c w' := by
 have HW := qd (show Washed w b c w from ⟨c.lf, c.gn, c.ma, c.ml, Nat.le_refl _, h, Mod.refl _ _⟩)
 clear h
 go_in
 go_wp2
 go_loopw [7] (fun v7 wr => ∃ i : Nat, i ≤ n ∧ v7 = .int .i64 (i : Int) ∧ Hid (Washed w b c wr)) (fun v7 _ => n - (intOf v7).toNat)
 case atStart => exact ⟨0, by omega, rfl, HW⟩
 case round =>
  clear HW
  obtain ⟨i, hi, rfl, HW⟩ := hrel
  by_cases hlt : i < n
  ·have hlt' : (i : Int) < (n : Int) := by omega
   obtain ⟨lf, gn, ma, ml, q1, q2, q3⟩ := HW.out
   have HS := qd (wash_Step q2)
   have HQ := qd (And.intro q1 q3)
   have hw1 : IntKind.i64.wrap ((i : Int) + 1) = ((i + 1 : Nat) : Int) := by rw [IntKind.wrap_i64]; omega
   clear q1 q2 q3 HW
   go_wp2_with fail
   refine HS.out.mono ?_
   rintro y w2 ⟨x, rfl, lf', gn', ma', ml', k1, k2, k3⟩
   have HW2 := qd (show Washed w b c w2 from ⟨lf', gn', ma', ml', Nat.le_trans k1 HQ.out.1, k2, HQ.out.2.then k3⟩)
   clear k1 k2 k3 HS HQ
   cases x with
   | true =>
    go_wp2
    go_roundw
    case rel => exact ⟨i + 1, by omega, rfl, HW2⟩
    case measure => simp [intOf]; omega
   | false =>
    go_wp2
    go_ret
    first | exact ⟨i, rfl, HW2.out⟩ | exact ⟨⟨i, rfl⟩, HW2.out⟩
  ·have hlt' : ¬ (i : Int) < (n : Int) := by omega
   go_wp2
   go_ret
   first | exact ⟨i, rfl, HW.out⟩ | exact ⟨⟨i, rfl⟩, HW.out⟩
end
theorem plan_Wash (k m i : Int) (hk : 1 ≤ k ∧ k ≤ 64) (w : World) : Calls Tryz.prog 76 #[cfgV k m i] w fun e w' => e = .returned (.int .i64 (4 * k)) ∧ Below w.heap.size w w' := by
 have hB := (Below.refl w.heap.size w).alloc (Nat.le_refl _) (.cells #[.int .i64 k, .int .i64 m, .int .i64 i] 30)
 have hC := Blk.new w 30 #[.int .i64 k, .int .i64 m, .int .i64 i]
 obtain ⟨W, hW⟩ : ∃ W, W = w.alloc (.cells #[.int .i64 k, .int .i64 m, .int .i64 i] 30) := ⟨_, rfl⟩
 rw [← hW] at hB hC
 obtain ⟨c0, c1, c2⟩ := hC.c3
 have HW := qd hW
 have HB := qd hB
 have HP := qd (plan_times k m i 4 hk (by omega) W)
 unfold cfgV at HP ⊢
 clear hW hB hC hk
 go_in
 go_upto_region 1 with fail
 rw [← HW.out]
 go_wp2_with fail
 refine (HP.out).mono ?_
 rintro y w1 ⟨rfl, hb⟩
 have HB2 := qd (HB.out.trans (hb.mono HB.out.size))
 clear hb
 go_wp2
 go_ret
 exact ⟨ret_int (by omega), HB2.out⟩
theorem meter_Last {w : World} {mb : Nat} {t : TypeId} {pre post : List Value} {mo : Nat} {a l : Cnt} {m : Int} (h : Met w mb t pre post mo a l m) : Calls Tryz.prog 46 #[.pointer (some ⟨mb, mo, none⟩)] w fun e w' => e = .returned (cntV l) ∧ Below w.heap.size w w' := by
 have m3 : w.cell? ⟨mb, mo + 3, none⟩ = some (.int .i64 l.p) := h.at_ 3 (by omega)
 have m4 : w.cell? ⟨mb, mo + 3 + 1, none⟩ = some (.int .i64 l.v) := h.at_ 4 (by omega)
 have m5 : w.cell? ⟨mb, mo + 3 + 2, none⟩ = some (.int .i64 l.u) := h.at_ 5 (by omega)
 have hl := h.lt
 have hB := (Below.refl w.heap.size w).alloc (Nat.le_refl _) (.cells #[.int .i64 0, .int .i64 0, .int .i64 0] 70)
 have hX := Blk.new w 70 #[.int .i64 0, .int .i64 0, .int .i64 0]
 obtain ⟨W, hW⟩ : ∃ W, W = w.alloc (.cells #[.int .i64 0, .int .i64 0, .int .i64 0] 70) := ⟨_, rfl⟩
 rw [← hW] at hB hX
 replace m3 := cell_in hB m3
 replace m4 := cell_in hB m4
 replace m5 := cell_in hB m5
 obtain ⟨x0, x1, x2⟩ := hX.c3
 obtain ⟨f0, f1, f2⟩ := hX.f3
 have HW := qd hW
 have HB := qd hB
 unfold cntV
 clear h hW hB hX
 go_in
 go_upto_region 1 with fail
 rw [← HW.out]
 go_wp2
 refine bodyPost_ret (v := .agg #[.int .i64 l.p, .int .i64 l.v, .int .i64 l.u]) (by simp [results, Tryz.results46, go_sem, x0, x1, x2]) rfl ?_
 exact ⟨rfl, (((HB.out).setCell (p := ⟨w.heap.size, 0, none⟩) (Nat.le_refl _) _).setCell (p := ⟨w.heap.size, 1, none⟩) (Nat.le_refl _) _).setCell (p := ⟨w.heap.size, 2, none⟩) (Nat.le_refl _) _⟩
section
variable {w : World} {b : Nat} {c : RmC}
theorem rm_count (h : RmB w b c) (d : Cnt) : Calls Tryz.prog 44 #[.pointer (some ⟨b, 0, none⟩), cntV d] w fun y w' => y = .returned undef ∧ RmB w' b { c with last := d, all := plusC c.all d } ∧ Mod [b] w w' := by
 obtain ⟨s, hs⟩ : ∃ s, s = plusC c.all d := ⟨_, rfl⟩
 have HPl := qd (fun V => meter_Plus c.all d V)
 rw [← hs] at HPl ⊢
 clear hs
 have HP0 := qd trivial
 have hB := (Below.refl w.heap.size w).alloc (Nat.le_refl _) (.cells #[.int .i64 d.p, .int .i64 d.v, .int .i64 d.u] 70)
 have hX := Blk.new w 70 #[.int .i64 d.p, .int .i64 d.v, .int .i64 d.u]
 obtain ⟨W, hW⟩ : ∃ W, W = w.alloc (.cells #[.int .i64 d.p, .int .i64 d.v, .int .i64 d.u] 70) := ⟨_, rfl⟩
 rw [← hW] at hB hX
 have hne : b ≠ w.heap.size := fun e => by have := h.lt; omega
 have hC := h.mod (Mod.of_below hB []) (by simp)
 have HL := qd (And.intro h.lf h.gn)
 have hbk := hC.blk
 unfold RmC.cells at hbk
 have x0 := hX.cell 0
 have x1 := hX.cell 1
 have x2 := hX.cell 2
 have c17 := hbk.cell 17
 have c18 := hbk.cell 18
 have c19 := hbk.cell 19
 simp only [gl] at x0 x1 x2 c17 c18 c19
 have f17 := hbk.frozen 17
 have f18 := hbk.frozen 18
 have f19 := hbk.frozen 19
 have HW := qd hW
 have HB := qd hB
 have HX := qd hX
 have HK := qd hbk
 unfold cntV
 clear h hW hB hX hC hbk
 go_in
 go_upto_region 1 with fail
 rw [← HW.out]
 go_upto_region 2 with fail
 have hnew := ((HK.out.set_ 17 (.int .i64 d.p)).set_ 18 (.int .i64 d.v)).set_ 19 (.int .i64 d.u)
 have hm := (((Mod.refl [b] W).sl 17 (.int .i64 d.p)).sl 18 (.int .i64 d.v)).sl 19 (.int .i64 d.u)
 simp only [pt] at hnew
 refine nameM hnew hm ?_
 clear hnew hm HK x0 x1 x2 c17 c18 c19 f17 f18 f19
 rintro W1 ⟨hK, hm⟩
 have HM := qd ((Mod.of_below HB.out [b]).then hm)
 replace HX := qd (HX.out.mod hm (by simp; omega))
 have HK := qd hK
 clear hK hm
 have x0 := HX.out.cell 0
 have x1 := HX.out.cell 1
 have x2 := HX.out.cell 2
 have c20 := HK.out.cell 20
 have c21 := HK.out.cell 21
 have c22 := HK.out.cell 22
 simp only [gl] at x0 x1 x2 c20 c21 c22
 clear HP0
 have HP := qd (fun V => (show Calls Tryz.prog 74 #[.agg #[.int .i64 c.all.p, .int .i64 c.all.v, .int .i64 c.all.u], .agg #[.int .i64 d.p, .int .i64 d.v, .int .i64 d.u]] V fun e w' => e = .returned (.agg #[.int .i64 s.p, .int .i64 s.v, .int .i64 s.u]) ∧ Below V.heap.size V w' from HPl.out V))
 clear HPl
 refine rT (fun (w' : World) => w'.cell? ⟨w.heap.size, 0, none⟩ = some (.int .i64 d.p) ∧ w'.cell? ⟨w.heap.size, 1, none⟩ = some (.int .i64 d.v) ∧ w'.cell? ⟨w.heap.size, 2, none⟩ = some (.int .i64 d.u) ∧ w'.cell? ⟨b, 20, none⟩ = some (.int .i64 c.all.p) ∧ w'.cell? ⟨b, 21, none⟩ = some (.int .i64 c.all.v) ∧ w'.cell? ⟨b, 22, none⟩ = some (.int .i64 c.all.u)) [9] ?_
 have hHeld := (⟨x0, x1, x2, c20, c21, c22⟩ : _ ∧ _ ∧ _ ∧ _ ∧ _ ∧ _)
 refine vW 0 rfl ?_
 refine vW 1 rfl ?_
 refine vW 2 rfl ?_
 refine vW 3 rfl ?_
 refine vT 4 rfl ?_
 refine vT 5 rfl ?_
 refine nT 6 rfl fun K hK => ?_
 go_simp
 refine (HP.out _).mono ?_
 rintro y W2 ⟨rfl, hb⟩
 replace hb : Below W1.heap.size W1 W2 := below_nx hb (Below.refl _ _).drew
 replace HK := qB hb HK
 replace HX := qB hb HX
 replace HM := qd (HM.out.then (Mod.of_below hb [b]))
 clear hb HP x0 x1 x2 c20 c21 c22
 have x0 := HX.out.cell 0
 have x1 := HX.out.cell 1
 have x2 := HX.out.cell 2
 have c20 := HK.out.cell 20
 have c21 := HK.out.cell 21
 have c22 := HK.out.cell 22
 simp only [gl] at x0 x1 x2 c20 c21 c22
 go_wp2_with fail
 have hHeld := (⟨x0, x1, x2, c20, c21, c22⟩ : _ ∧ _ ∧ _ ∧ _ ∧ _ ∧ _)
 refine kO hK ?_
 clear hK K
 refine vW 7 rfl ?_
 refine vW 8 rfl ?_
 refine nT 9 rfl fun K hK => ?_
 have f20 := HK.out.frozen 20
 have f21 := HK.out.frozen 21
 have f22 := HK.out.frozen 22
 have hnew := ((HK.out.set_ 20 (.int .i64 s.p)).set_ 21 (.int .i64 s.v)).set_ 22 (.int .i64 s.u)
 have hm := (((Mod.refl [b] W2).sl 20 (.int .i64 s.p)).sl 21 (.int .i64 s.v)).sl 22 (.int .i64 s.u)
 simp only [pt] at hnew
 have HN := qd hnew
 have HQ := qd (HM.out.then hm)
 clear hnew hm
 go_simp
 refine kO hK ?_
 clear hK K
 refine doneT (by kernel_rfl) ?_ _
 go_wp2
 go_end0
 exact ⟨rfl, ⟨HN.out, HL.out.1, HL.out.2⟩, HQ.out⟩
def Wrote (w : World) (b : Nat) (c : RmC) (w' : World) : Prop := ∃ (lf gn : Nat) (ma ml last all : Cnt), lf ≤ c.lf ∧ RmB w' b { c with lf := lf, gn := gn, ma := ma, ml := ml, last := last, all := all } ∧ Mod [b] w w'
theorem rm_wrote (h : RmB w b c) (hk : 1 ≤ c.k ∧ c.k ≤ 64) (d : Cnt) : Calls Tryz.prog 47 #[.pointer (some ⟨b, 0, none⟩), cntV d] w fun y w' => y = .returned undef ∧ Wrote w b c w' := by
 have hB := (Below.refl w.heap.size w).alloc (Nat.le_refl _) (.cells #[.int .i64 d.p, .int .i64 d.v, .int .i64 d.u] 70)
 have hX := Blk.new w 70 #[.int .i64 d.p, .int .i64 d.v, .int .i64 d.u]
 obtain ⟨W, hW⟩ : ∃ W, W = w.alloc (.cells #[.int .i64 d.p, .int .i64 d.v, .int .i64 d.u] 70) := ⟨_, rfl⟩
 rw [← hW] at hB hX
 have hne : b ≠ w.heap.size := fun e => by have := h.lt; omega
 have hC := h.mod (Mod.of_below hB []) (by simp)
 have HC := qd hC
 have HRs := qd (meter_Reset b _ _ _ 8 _ _ 0 W (rm_met hC.blk))
 have HW := qd hW
 have HM := qd (Mod.of_below hB [b])
 have HX := qd hX
 obtain ⟨bx, hbx⟩ : ∃ bx, bx = w.heap.size := ⟨_, rfl⟩
 rw [← hbx] at HX hne
 have HNe := qd hne
 unfold cntV
 clear h hW hB hX hC hne
 go_in
 go_upto_region 1 with fail
 rw [← HW.out]
 rw [← hbx]
 clear hbx
 go_wp2_with fail
 refine HRs.out.mono ?_
 rintro y W1 ⟨rfl, hm1, hm⟩
 have h1 := rm_of hm1
 replace HX := qd (HX.out.mod hm (fun hh => HNe.out (List.mem_singleton.1 hh).symm))
 replace HM := qd (HM.out.then hm)
 have HC1 := qd (show RmB W1 b { c with ml := ⟨0, 0, 0⟩ } from ⟨h1, HC.out.lf, HC.out.gn⟩)
 clear hm1 hm HRs HC
 have hbk := h1
 unfold RmC.cells at hbk
 obtain ⟨c0, c1, c2⟩ := hbk.c3
 clear h1 hbk
 have HPw := qd (show ∀ V, Calls Tryz.prog 76 #[.agg #[.int .i64 c.k, .int .i64 c.m, .int .i64 c.i]] V _ from fun V => plan_Wash c.k c.m c.i hk V)
 go_upto_region 2 with fail
 refine rT (fun (w' : World) => w'.cell? ⟨b, 0, none⟩ = some (.int .i64 c.k) ∧ w'.cell? ⟨b, 1, none⟩ = some (.int .i64 c.m) ∧ w'.cell? ⟨b, 2, none⟩ = some (.int .i64 c.i)) [11] ?_
 have hHeld := (⟨c0, c1, c2⟩ : _ ∧ _ ∧ _)
 refine vW 0 rfl ?_
 refine vW 1 rfl ?_
 refine vW 2 rfl ?_
 refine vW 3 rfl ?_
 refine vW 4 rfl ?_
 refine vW 5 rfl ?_
 refine vW 6 rfl ?_
 refine vW 7 rfl ?_
 refine vW 8 rfl ?_
 refine vT 9 rfl ?_
 refine nT 10 rfl fun K hK => ?_
 go_simp
 refine (HPw.out _).mono ?_
 rintro y W2 ⟨rfl, hb⟩
 replace hb : Below W1.heap.size W1 W2 := below_nx hb (Below.refl _ _).drew
 replace HC1 := qB hb HC1
 replace HX := qB hb HX
 replace HM := qd (HM.out.then (Mod.of_below hb [b]))
 replace c0 := cell_in hb c0
 replace c1 := cell_in hb c1
 replace c2 := cell_in hb c2
 clear hb HPw
 go_wp2_with fail
 have hHeld := (⟨c0, c1, c2⟩ : _ ∧ _ ∧ _)
 refine kO hK ?_
 clear hK K
 refine nT 11 rfl fun K hK => ?_
 go_simp
 obtain ⟨n4, hn4⟩ : ∃ n4 : Nat, 4 * c.k = (n4 : Int) := ⟨(4 * c.k).toNat, by omega⟩
 rw [hn4]
 have HSp := qd (wash_Spend HC1.out n4 (by omega))
 refine HSp.out.mono ?_
 rintro y W3 ⟨dn, rfl, lf, gn, ma, ml, g1, g2, g3⟩
 replace HX := qd (HX.out.mod g3 (fun hh => HNe.out (List.mem_singleton.1 hh).symm))
 replace HM := qd (HM.out.then g3)
 have HC3 := qd g2
 have HLe := qd g1
 clear g1 g2 g3 HSp hn4 HC1 c0 c1 c2
 go_wp2_with fail
 refine kO hK ?_
 clear hK K
 refine doneT (by kernel_rfl) ?_ _
 go_upto_region 3 with fail
 obtain ⟨C3, hC3⟩ : ∃ C3 : RmC, C3 = { c with lf := lf, gn := gn, ma := ma, ml := ml } := ⟨_, rfl⟩
 replace HC3 := qd (show RmB W3 b C3 from hC3 ▸ HC3.out)
 have HLs := qd (show Calls Tryz.prog 46 #[.pointer (some ⟨b, 8, none⟩)] (World.drew W3) _ from meter_Last (rm_met (HC3.out.mod (Mod.of_below (Below.refl W3.heap.size W3).drew []) (by simp)).blk))
 have HPl := qd (fun V => meter_Plus d C3.ml V)
 obtain ⟨s, hs⟩ : ∃ s, s = plusC d C3.ml := ⟨_, rfl⟩
 rw [← hs] at HPl
 unfold cntV at HLs HPl
 have HQ := qd hC3
 clear hs hC3
 obtain ⟨x0, x1, x2⟩ := HX.out.c3
 refine rT (fun (w' : World) => w'.cell? ⟨bx, 0, none⟩ = some (.int .i64 d.p) ∧ w'.cell? ⟨bx, 1, none⟩ = some (.int .i64 d.v) ∧ w'.cell? ⟨bx, 2, none⟩ = some (.int .i64 d.u)) [6, 7] ?_
 have hHeld := (⟨x0, x1, x2⟩ : _ ∧ _ ∧ _)
 refine vW 0 rfl ?_
 refine vT 1 rfl ?_
 refine vW 2 rfl ?_
 refine vW 3 rfl ?_
 refine vW 4 rfl ?_
 refine nT 5 rfl fun K hK => ?_
 go_simp
 refine (HLs.out).mono ?_
 rintro y W4 ⟨rfl, hb⟩
 replace hb : Below W3.heap.size W3 W4 := below_nx hb (Below.refl _ _).drew
 replace HC3 := qB hb HC3
 replace HM := qd (HM.out.then (Mod.of_below hb [b]))
 replace x0 := cell_in hb x0
 replace x1 := cell_in hb x1
 replace x2 := cell_in hb x2
 clear hb HLs
 go_wp2_with fail
 have hHeld := (⟨x0, x1, x2⟩ : _ ∧ _ ∧ _)
 refine kO hK ?_
 clear hK K
 refine nT 6 rfl fun K hK => ?_
 go_simp
 refine (HPl.out _).mono ?_
 rintro y W5 ⟨rfl, hb⟩
 replace HC3 := qB hb HC3
 replace HM := qd (HM.out.then (Mod.of_below hb [b]))
 clear hb HPl x0 x1 x2
 go_wp2_with fail
 refine kO hK ?_
 clear hK K
 refine nT 7 rfl fun K hK => ?_
 go_simp
 have HCn := qd (show Calls Tryz.prog 44 #[.pointer (some ⟨b, 0, none⟩), .agg #[.int .i64 s.p, .int .i64 s.v, .int .i64 s.u]] W5 _ from rm_count HC3.out s)
 refine (HCn.out).mono ?_
 rintro y W6 ⟨rfl, h6, m6⟩
 have HE := qd (show Wrote w b c W6 from ⟨lf, gn, ma, ml, s, plusC C3.all s, HLe.out, by have h7 := h6; rw [HQ.out] at h7 ⊢; exact h7, HM.out.then m6⟩)
 clear h6 m6 HCn
 go_wp2_with fail
 refine kO hK ?_
 clear hK K
 refine doneT (by kernel_rfl) ?_ _
 go_wp2
 go_end0
 exact ⟨rfl, HE.out⟩
end
end
section
def CoreAtC (W0 : World) (E : Nat → Addr) (H : Nat → Nat) (K M mb : Nat) (G : List Nat) (w : World) (a : Pool) (ids : List Nat) (c : Cnt) : Prop :=
 ∃ (C : CPl) (F : List Nat) (len : Nat) (b : Int) (x : Mtr), C.mb = mb ∧ C.K = K ∧ C.M = M ∧ G = C.foot F ∧ CoreF W0 E H C w (C.foot F) w F ⟨a, ids, len, b, x⟩ ∧ CInv a ids [] ∧ len = a.ents.length ∧ len ≤ M ∧ x.last = c
def LeC (c : Cnt) : Prop := 0 ≤ c.p ∧ c.p ≤ 192 ∧ c.u = 0
section
variable {W0 : World} {E : Nat → Addr} {H : Nat → Nat} {K M mb : Nat} {G : List Nat} {w w' : World} {a : Pool} {ids : List Nat} {c : Cnt}
theorem CoreAtC.at_ (h : CoreAtC W0 E H K M mb G w a ids c) : CoreAt W0 E H K M mb G w a ids := by
 obtain ⟨C, F, len, b, x, h1, h2, h3, h4, h5, h6, h7, h8, _⟩ := h
 exact ⟨C, F, len, b, x, h1, h2, h3, h4, h5, h6, h7, h8⟩
theorem CoreAt.c_ (h : CoreAt W0 E H K M mb G w a ids) : ∃ c, CoreAtC W0 E H K M mb G w a ids c := by
 obtain ⟨C, F, len, b, x, h1, h2, h3, h4, h5, h6, h7, h8⟩ := h
 exact ⟨_, C, F, len, b, x, h1, h2, h3, h4, h5, h6, h7, h8, rfl⟩
theorem core_Meter (cb : Nat) (w : World) : Calls Tryz.prog 45 #[.pointer (some ⟨cb, 0, none⟩)] w fun y w' => y = .returned (.pointer (some ⟨cb, 3, none⟩)) ∧ w = w' := by
 go_in
 go_wp2
 go_ret
 exact ⟨rfl, rfl⟩
theorem at_Last (h : CoreAtC W0 E H K M mb G w a ids c) : Calls Tryz.prog 46 #[.pointer (some ⟨mb, 3, none⟩)] w fun y w' => y = .returned (cntV c) ∧ Below w.heap.size w w' := by
 obtain ⟨C, F, len, b, x, h1, h2, h3, h4, h5, h6, h7, h8, h9⟩ := h
 rw [← h1, ← h9]
 exact meter_Last (show Met w C.mb _ _ _ 3 x.all x.last C.m from h5.sch.met)
theorem CoreAtC.mod {S : List Nat} (h : CoreAtC W0 E H K M mb G w a ids c) (hm : Mod S w w') (hS : ∀ q ∈ S, q ∉ G ∧ W0.heap.size ≤ q) : CoreAtC W0 E H K M mb G w' a ids c := by
 obtain ⟨C, F, len, b, x, h1, h2, h3, rfl, hC, hi, hl, hm', hx⟩ := h
 have hd : ∀ q ∈ S, q ≠ C.mb ∧ q ∉ C.s.blocks ∧ q ∉ F ∧ C.v.ownBlock ≠ some q := fun q hq => by
  have := (hS q hq).1
  rw [mem_foot] at this
  simp only [not_or] at this
  exact this
 refine ⟨C, F, len, b, x, h1, h2, h3, rfl, ⟨SchSt.start (hC.sch.sch.mod hm (fun q hq hqS => (hd q hqS).2.1 hq)) (hC.hp.stab hC.sch.pool hm (fun q hq hqS => (hd q hqS).2.2.1 hq)) (hC.sch.met.mod hm (fun hq => (hd _ hq).1 rfl)) (hC.sch.env.mod hm (fun q hq => (hS q hq).2)) hC.sch.apart hC.sch.mb0, own_far hC.row hm (fun k hk hkS => (hd k hkS).2.2.2 hk), hC.rap, hC.pos, hC.kk, hC.mm, ?_, fun q hq => .inl hq, Mod.refl _ _⟩, hi, hl, hm', hx⟩
 have := hC.sch.env.size
 have := hm.size
 omega
theorem CoreAtC.below (h : CoreAtC W0 E H K M mb G w a ids c) (hb : Below w.heap.size w w') : CoreAtC W0 E H K M mb G w' a ids c := h.mod (Mod.of_below hb []) (by simp)
def PutR (H : Nat → Nat) (K M : Nat) (a : Pool) (ids : List Nat) (e : Ent) (a' : Pool) (ids' : List Nat) : Prop := a'.ents.Perm (putL M a.ents e) ∧ (look a.ents e.key = none → a.ents.length < M → WrS H K a ids [] [e] a' ids')
theorem at_putW (h : CoreAt W0 E H K M mb G w a ids) (e : Ent) (he : EntOk H e) : Calls Tryz.prog 43 #[coreP mb, .int .u64 (e.key : Int), .int .u64 (e.val : Int), .int .u64 (e.hash : Int)] w fun y w' =>
  y = .returned (errV E (putC M a.ents e.key)) ∧ ∃ a' ids', CoreTo W0 E H K M mb G w w' a' ids' ∧ PutR H K M a ids e a' ids' := by
 obtain ⟨f1, f2, f3, f4, f5, f6, _, _, _, f10, _⟩ := h.facts
 refine (at_Put h e he).mono ?_
 rintro y w' (⟨h1, h2, rfl, hto⟩ | ⟨a', ids', h1, h2, rfl, hw, hto⟩ | ⟨a', ids', e0, h1, rfl, hw, hto⟩)
 ·have hf : fullB M a.ents e.key = true := by simp [fullB, h1, h2]
  unfold PutR putC putL
  rw [hf]
  exact ⟨rfl, a, ids, hto, .refl _, fun _ hl => by omega⟩
 ·have hf : fullB M a.ents e.key = false := by simp [fullB, h1]; omega
  unfold PutR putC putL
  rw [hf, rest_none h1]
  have hw0 := hw
  obtain ⟨_, _, _, _, _, _, ⟨r, hr1, hr2⟩, _⟩ := hw
  have h3 : (e :: r).Perm (e :: a.ents) := .cons e hr1.symm
  exact ⟨rfl, a', ids', hto, hr2.trans (h3.trans (List.perm_append_singleton e a.ents).symm), fun _ _ => hw0⟩
 ·have hf : fullB M a.ents e.key = false := by simp [fullB, h1]
  unfold PutR putC putL
  rw [hf]
  obtain ⟨_, _, _, _, _, _, ⟨r, hr1, hr2⟩, _⟩ := hw
  obtain ⟨m1, m2⟩ := look_mem h1
  obtain ⟨j, N, k1, k2⟩ := mem_pool.1 m1
  obtain ⟨k3, _⟩ := (f6 j N k1).hash e0 k2
  have hee : ({ e0 with val := e.val } : Ent) = e := by
   have h4 : e0.hash = e.hash := by rw [k3.hash, m2, he.hash]
   obtain ⟨a1, a2, a3⟩ := e
   simp only at m2 h4
   simp [m2, h4]
  rw [hee] at hr2
  have h3 := rest_cons f10 hr1
  rw [m2] at h3
  exact ⟨rfl, a', ids', hto, hr2.trans ((List.Perm.cons e h3.symm).trans (List.perm_append_singleton e _).symm), fun hl => by rw [h1] at hl; cases hl⟩
end
end
section
structure Cur where
 hash : Nat
 key : Nat
 done : Bool
def behind (hash key : Nat) : Cur := if key < 18446744073709551615 then ⟨hash, key + 1, false⟩ else if hash < 18446744073709551615 then ⟨hash + 1, 0, false⟩ else ⟨0, 0, true⟩
def Cur.ok (c : Cur) : Prop := c.hash < 18446744073709551616 ∧ c.key < 18446744073709551616
def Cur.cells (c : Cur) : Array Value := #[.int .u64 (c.key : Int), .int .u64 0, .int .u64 (c.hash : Int), .bool c.done]
def CurAt (w : World) (b : Nat) (c : Cur) : Prop := Blk w b 149 c.cells
theorem CurAt.blk {w : World} {b : Nat} {c : Cur} (h : CurAt w b c) : Blk w b 149 #[.int .u64 (c.key : Int), .int .u64 0, .int .u64 (c.hash : Int), .bool c.done] := h
theorem CurAt.lt {w : World} {b : Nat} {c : Cur} (h : CurAt w b c) : b < w.heap.size := Blk.lt h
theorem CurAt.mod {S : List Nat} {w w' : World} {b : Nat} {c : Cur} (h : CurAt w b c) (hm : Mod S w w') (hb : b ∉ S) : CurAt w' b c := Blk.mod h hm hb
instance {w w' : World} {b : Nat} {c : Cur} : Md (CurAt w b c) w w' (CurAt w' b c) (fun S => b ∉ S) := ⟨fun h hm hs => CurAt.mod h hm hs⟩
theorem catch_idle (p : Addr) (w : World) :
  CallsD Tryz.prog 67 #[.pointer (some p)] .returning w fun e u' w' => e = .returned (.tuple #[]) ∧ u' = .returning ∧ w' = w := by
 refine callsD_of_wpS Tryz.func67 rfl fun c₀ cs hu => ?_
 apply wpS_seq
 apply wpS_region
 simp [wpOpsS, go_sem, recoverD, hu, Tryz.ntmps67, Exit.thenS]
 refine wpS_of_wp ?_
 go_wp2
 cases c₀
 simp_all [bodyPostS, results, Tryz.results67]
theorem eqIn_fn (d : Nat) (fn : Fn) (a b : Array Value) (w : World) : (Op.equalIn (d + 1) 1 (.func fn a b) .nilFunc).run Tryz.prog w = .ok false w := by simp [Op.equalIn, run_underlying Tryz.underlying1]
theorem eq_fn (fn : Fn) (a b : Array Value) (w : World) : (Op.equal 1 (.func fn a b) .nilFunc).run Tryz.prog w = .ok false w := eqIn_fn 9999 fn a b w
theorem trap_Catch {S : List Nat} {K : World → Prop} (G : FuncId) (cap : Array Value) (w : World) (hG : ∀ W : World, (callFunc G cap).run Tryz.prog W = .ok (.enter G cap) W) (hS : w.heap.size ∉ S)
  (hc : Calls Tryz.prog G cap (w.alloc (.cells #[.nilIface] 26)) fun e w1 => e = .returned (.tuple #[]) ∧ Mod S (w.alloc (.cells #[.nilIface] 26)) w1 ∧ K w1) :
  Calls Tryz.prog 41 #[.func (.func G) #[] cap] w fun e w1 => e = .returned .nilIface ∧ Mod S (w.alloc (.cells #[.nilIface] 26)) w1 ∧ K w1 := by
 have hmf : ∀ (fn : Fn) (first cap : Array Value) (w : World), (Instr.makeFunc fn first cap).run Tryz.prog w = .ok (.func fn first cap) w := fun _ _ _ _ => rfl
 have hq : ∀ W : World, (binOp .eql 1 (.func (.func G) #[] cap) .nilFunc).run Tryz.prog W = .ok (.bool false) W := fun W => by
  simp only [binOp]
  simp [eq_fn]
 have HC := qd hc
 clear hc
 go_enter_defers Tryz.func41, Tryz.ntmps41
 go_wp2_with fail
 refine HC.out.mono ?_
 rintro y w1 ⟨rfl, hm, hk⟩
 have hB := (Blk.new w 26 #[.nilIface]).mod hm hS
 have hid := hB.setCell_id (i := 0) (u := .nilIface) rfl
 have c0 := hB.cell 0
 have f0 := hB.frozen 0
 simp only [List.getElem?_toArray, List.getElem?_cons_zero] at c0
 have HI := qd hid
 have HM := qd hm
 have HK := qd hk
 clear hB hid hm hk HC
 go_wp2
 rw [HI.out]
 refine leaves_cons (f := 67) (args := #[.pointer (some ⟨w.heap.size, 0, none⟩)]) (by simp) (by simp [go_sem]) ?_
 refine (catch_idle ⟨w.heap.size, 0, none⟩ _).mono ?_
 rintro e u' w2 ⟨rfl, rfl, rfl⟩
 simp [Leaves, settle, results, Tryz.results41, go_sem, c0]
 exact ⟨HM.out, HK.out⟩
theorem cursor_New (w : World) : Calls Tryz.prog 54 #[] w fun y w' => y = .returned (.pointer (some ⟨w.heap.size, 0, none⟩)) ∧ CurAt w' w.heap.size ⟨0, 0, false⟩ ∧ Below w.heap.size w w' := by
 go_in
 go_wp2
 go_ret
 exact ⟨rfl, Blk.new _ _ _, (Below.refl _ _).alloc (Nat.le_refl _) _⟩
section
variable {w : World} {b : Nat} {c : Cur}
end
end
section
def mEnt (p : Nat × Nat) : MapEntry := ⟨.int .i64 (p.1 : Int), .pointer (some ⟨p.2, 0, none⟩), p.1 - 1⟩
def MapL (w : World) (b g : Nat) (l : List (Nat × Nat)) : Prop := w.heap[b]? = some (.map (l.map mEnt).toArray g)
def findL (l : List (Nat × Nat)) (x : Int) : Option Nat := (l.find? fun p => decide ((p.1 : Int) = x)).map Prod.snd
def ptrO (o : Option Nat) : Value := .pointer (o.map fun b => ⟨b, 0, none⟩)
section
variable {P : Program} {w w' : World} {b g : Nat} {l : List (Nat × Nat)} {t k e : TypeId}
theorem MapL.lt (h : MapL w b g l) : b < w.heap.size := (Array.getElem?_eq_some_iff.1 h).1
theorem MapL.mod {S : List Nat} (h : MapL w b g l) (hm : Mod S w w') (hb : b ∉ S) : MapL w' b g l := (hm.block b h.lt hb).trans h
instance {w w' : World} {b g : Nat} {l : List (Nat × Nat)} : Md (MapL w b g l) w w' (MapL w' b g l) (fun S => b ∉ S) := ⟨fun h hm hs => MapL.mod h hm hs⟩
theorem MapL.new (w : World) : MapL (w.alloc (.map #[] 0)) w.heap.size 0 [] := by
 exact heap_alloc_new w _
theorem find_now (x : Int) : ∀ (l : List (Nat × Nat)) (i : Nat), ∃ a, Instr.findNow (.int .i64) (.int .i64 x) (l.map mEnt) i = some a ∧ a.map Prod.snd = (findL l x).map (fun b => Value.pointer (some ⟨b, 0, none⟩)) ∧ ∀ p, a = some p → ∃ j, p.1 = i + j ∧ (l.map Prod.fst)[j]?.map (fun n : Nat => (n : Int)) = some x
 | [], _ => ⟨none, rfl, rfl, fun _ h => by cases h⟩
 | p :: l, i => by
  by_cases hp : (p.1 : Int) = x
  ·refine ⟨some (i, .pointer (some ⟨p.2, 0, none⟩)), ?_, ?_, fun q hq => ?_⟩
   ·subst hp; simp [Instr.findNow, Instr.sameNow, mEnt]
   ·unfold findL; rw [List.find?_cons_of_pos (by simpa using hp)]; rfl
   ·cases hq; exact ⟨0, rfl, by simp [hp]⟩
  ·obtain ⟨a, h1, h2, h3⟩ := find_now x l (i + 1)
   refine ⟨a, ?_, ?_, fun q hq => ?_⟩
   ·have : ((x == (p.1 : Int)) = false) := by simpa using fun h => hp h.symm
    simp [Instr.findNow, Instr.sameNow, mEnt, this] at h1 ⊢
    exact h1
   ·unfold findL at h2 ⊢; rw [List.find?_cons_of_neg (by simpa using hp)]; exact h2
   ·obtain ⟨j, h4, h5⟩ := h3 q hq
    exact ⟨j + 1, by omega, by simpa using h5⟩
theorem key_int {x : Int} : IsKey (.int .i64) (.int .i64 x) := by simp [IsKey]
theorem MapL.look (h : MapL w b g l) (ht : P.underlying t = some (.map k e)) (hk : P.underlying k = some (.int .i64)) (hz : (zeroValue e).run P w = .ok (.pointer none) w) (x : Int) :
  (Instr.lookup t (.map (some b)) (.int .i64 x) true).run P w = .ok (.tuple #[ptrO (findL l x), .bool (findL l x).isSome]) w := by
 obtain ⟨a, h1, h2, _⟩ := find_now x l 0
 have h3 := run_findKey (P := P) (w := w) hk h1
 cases hf : findL l x with
 | none =>
  rw [hf] at h2
  obtain rfl : a = none := by cases a with | none => rfl | some q => simp at h2
  simp [Instr.lookup, run_underlying ht, Go.MapKept.run_getObj_map (show w.heap[b]? = some (.map (l.map mEnt).toArray g) from h), run_checkKey hk key_int, h3, hz, Result.andThen, ptrO]
 | some c =>
  rw [hf] at h2
  cases a with
  | none => simp at h2
  | some q =>
   obtain ⟨i, v⟩ := q
   simp at h2
   subst h2
   simp [Instr.lookup, run_underlying ht, Go.MapKept.run_getObj_map (show w.heap[b]? = some (.map (l.map mEnt).toArray g) from h), run_checkKey hk key_int, h3, Result.andThen, ptrO]
theorem findL_none {x : Int} : findL l x = none ↔ ∀ p ∈ l, (p.1 : Int) ≠ x := by
 unfold findL
 rw [Option.map_eq_none_iff, List.find?_eq_none]
 simp
theorem findL_mem {x : Int} {c : Nat} (h : findL l x = some c) : ∃ n : Nat, (n, c) ∈ l ∧ (n : Int) = x := by
 unfold findL at h
 rw [Option.map_eq_some_iff] at h
 obtain ⟨p, h1, rfl⟩ := h
 have h2 := List.find?_some h1
 exact ⟨p.1, List.mem_of_find?_eq_some h1, by simpa using h2⟩
theorem MapL.mod_ (h : MapL w b g l) (o : Obj) : Mod [b] w (setBlock w b o) := ⟨rfl, rfl, rfl, by simp [setBlock], fun k _ hn => heap_setBlock_other h o (by simpa using hn)⟩
theorem MapL.put (h : MapL w b g l) (ht : P.underlying t = some (.map k e)) (hk : P.underlying k = some (.int .i64)) (hf : findL l ((g + 1 : Nat) : Int) = none) (c : Nat) :
  (Instr.mapUpdate t (.map (some b)) (.int .i64 ((g + 1 : Nat) : Int)) (.pointer (some ⟨c, 0, none⟩))).run P w = .ok () (setBlock w b (.map ((l ++ [(g + 1, c)]).map mEnt).toArray (g + 1))) := by
 obtain ⟨a, h1, h2, _⟩ := find_now ((g + 1 : Nat) : Int) l 0
 have h3 := run_findKey (P := P) (w := w) hk h1
 rw [hf] at h2
 obtain rfl : a = none := by cases a with | none => rfl | some q => simp at h2
 rw [show ((g + 1 : Nat) : Int) = (g : Int) + 1 from by omega] at h3
 simp [Instr.mapUpdate, run_underlying ht, Go.MapKept.run_getObj_map (show w.heap[b]? = some (.map (l.map mEnt).toArray g) from h), run_checkKey hk key_int, h3, Go.MapKept.run_setObj_map _ (show w.heap[b]? = some (.map (l.map mEnt).toArray g) from h), Result.andThen, setBlock, mEnt]
theorem MapL.set_ (h : MapL w b g l) (l' : List (Nat × Nat)) (g' : Nat) : MapL (setBlock w b (.map (l'.map mEnt).toArray g')) b g' l' := heap_setBlock_same h _
end
end
end Go.Proofs.YtgfcmdmpegomdaaGreatDoor
