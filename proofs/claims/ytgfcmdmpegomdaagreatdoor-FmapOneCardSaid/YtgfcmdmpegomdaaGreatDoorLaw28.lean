/- FmapOne: of two floats what is put to the one is got of the other just if they have one form. -/
import Derived.Test.YtgfcmdmpegomdaaGreatDoorNum
import Derived.Test.YtgfcmdmpegomdaaGreatDoorLaneP
namespace Go.Proofs.YtgfcmdmpegomdaaGreatDoor
set_option maxRecDepth 100000
set_option maxHeartbeats 4000000
open Go.RowKit AmC AmF
theorem one_cases {a b v : Nat} (ha : a < 18446744073709551616) (hb : b < 18446744073709551616) {R : Nat → Option Nat} (hR : R = fupd (fupd (fupd (fun _ => none) 13832806255468478464 (some 4620693217682128896)) 18444492273895866368 (some 4621256167635550208)) (okey a) (some v)) :
  (decide (formW a = formW b) = true ∧ R (okey b) = some v) ∨ (decide (formW a = formW b) = false ∧ decide (formW b = 4609434218613702656) = true ∧ R (okey b) = some 4620693217682128896) ∨
  (decide (formW a = formW b) = false ∧ decide (formW b = 4609434218613702656) = false ∧ decide (formW b = 9221120237041090560) = true ∧ R (okey b) = some 4621256167635550208) ∨
  (decide (formW a = formW b) = false ∧ decide (formW b = 4609434218613702656) = false ∧ decide (formW b = 9221120237041090560) = false ∧ R (okey b) = none) := by
 have h1 : okey b = okey a ↔ formW a = formW b := ⟨fun h => ((okey_inj hb ha).1 h).symm, fun h => (okey_inj hb ha).2 h.symm⟩
 have h2 : okey b = 13832806255468478464 ↔ formW b = 4609434218613702656 := by
  rw [show (13832806255468478464 : Nat) = okey 4609434218613702656 by decide, okey_inj hb (by decide), show formW 4609434218613702656 = 4609434218613702656 by decide]
 have h3 : okey b = 18444492273895866368 ↔ formW b = 9221120237041090560 := by
  rw [show (18444492273895866368 : Nat) = okey 9221120237041090560 by decide, okey_inj hb (by decide), show formW 9221120237041090560 = 9221120237041090560 by decide]
 subst hR
 by_cases c1 : formW a = formW b
 ·exact .inl ⟨decide_eq_true c1, by rw [h1.2 c1, fupd_same]⟩
 ·have d1 : okey b ≠ okey a := fun h => c1 (h1.1 h)
  rw [fupd_ne d1]
  by_cases c2 : formW b = 4609434218613702656
  ·exact .inr (.inl ⟨decide_eq_false c1, decide_eq_true c2, by rw [h2.2 c2, fupd_ne (by decide), fupd_same]⟩)
  ·have d2 : okey b ≠ 13832806255468478464 := fun h => c2 (h2.1 h)
   by_cases c3 : formW b = 9221120237041090560
   ·exact .inr (.inr (.inl ⟨decide_eq_false c1, decide_eq_false c2, decide_eq_true c3, by rw [h3.2 c3, fupd_same]⟩))
   ·have d3 : okey b ≠ 18444492273895866368 := fun h => c3 (h3.1 h)
    exact .inr (.inr (.inr ⟨decide_eq_false c1, decide_eq_false c2, decide_eq_false c3, by rw [fupd_ne d3, fupd_ne d2]⟩))
theorem or4 {p q r s t : Prop} (h : p ∨ q ∨ r ∨ s) (h1 : p → t) (h2 : q → t) (h3 : r → t) (h4 : s → t) : t := h.elim h1 (fun h => h.elim h2 (fun h => h.elim h3 h4))
theorem law_one {E : Nat → Addr} (a b v : Nat) (w : World) (hE : Env w E w) (hEr : ErrsIn E w) (ha : a < 18446744073709551616) (hb : b < 18446744073709551616) (hv : v < 18446744073709551616) : Calls Tryz.prog 3 #[.float .f64 a, .float .f64 b, .float .f64 v] w fun y w' => y = .returned (.bool true) ∧ Below w.heap.size w w' := by
 have HE := qd hE
 have HEr := qd hEr
 have HLt := qd (And.intro ha (And.intro hb hv))
 have HAl := qd (law28_alive hE)
 have HNa := qd (fun (W : World) => math_NaN W)
 have hS1 := fun (W : World) => law28_same a b ha hb W
 have hS2 := fun (W : World) => law28_same b 4609434218613702656 hb (by decide) W
 have hS3 := fun (W : World) => law28_same b 9221120237041090561 hb (by decide) W
 rw [show formW 4609434218613702656 = 4609434218613702656 by decide] at hS2
 rw [show formW 9221120237041090561 = 9221120237041090560 by decide] at hS3
 have HS1 := qd hS1
 have HS2 := qd hS2
 have HS3 := qd hS3
 have q8 : (FloatKind.f64.format.order 4620693217682128896 4620693217682128896 != some .eq) = false := by decide
 have q9 : (FloatKind.f64.format.order 4621256167635550208 4621256167635550208 != some .eq) = false := by decide
 have q0 : (FloatKind.f64.format.order 0 0 != some .eq) = false := by decide
 clear hE hEr ha hb hv hS1 hS2 hS3
 go_in
 go_wp2_with fail
 refine HAl.out.mono ?_
 rintro y w0 ⟨rfl, hb0⟩
 have HBa := qd hb0
 have hE := HE.out.next hb0
 have hn := fm_New hE 1 9 1 (by decide) 1 9 1 ⟨by decide, by decide, rfl, rfl, rfl⟩ (by decide)
 unfold cfgV at hn
 have HN := qd hn
 clear hn hE hb0 HAl
 go_wp2_with fail
 refine HN.out.mono ?_
 rintro y w1 ⟨fb, b0, G1, rfl, hA, hG, hb⟩
 have HA := qd hA
 have HG := qd (show ∀ q ∈ G1, w.heap.size ≤ q from fun q hq => Nat.le_trans HBa.out.size (hG q hq))
 have HB := qd (below2 HBa.out hb)
 have HB0 := qd HB.out.size
 clear hA hG hb HN HBa
 have hp := fm_Put HA.out 4609434218613702656 4620693217682128896 (by decide) (by decide) (by decide)
 have HC := qd (show Calls Tryz.prog 6 #[.pointer (some ⟨fb, 0, none⟩), .float .f64 4609434218613702656, .float .f64 4620693217682128896] w1 (fun y w' => y = .returned .nilIface ∧ FmTo w E 1 9 1 fb b0 G1 w1 w' (fupd (fun _ => none) 13832806255468478464 (some 4620693217682128896)) 1 [] 0) from by
  rw [show okey 4609434218613702656 = 13832806255468478464 by decide, show formW 4620693217682128896 = 4620693217682128896 by decide] at hp
  exact hp)
 clear hp
 go_wp2_with fail
 refine HC.out.mono ?_
 rintro y w2 ⟨rfl, G2, hA, hs, hm⟩
 replace HB := qd (HB.out.trans (hm.below HG.out HB.out.size))
 replace HG := qd (show ∀ q ∈ G2, w.heap.size ≤ q from fun q hq => (hs q hq).elim (HG.out q) (fun k => Nat.le_trans HB0.out k))
 replace HB0 := qd HB.out.size
 replace HA := qd hA
 clear hA hs hm HC
 go_wp2_with fail
 refine (HNa.out _).mono ?_
 rintro y wq ⟨rfl, rfl⟩
 have hp := fm_Put HA.out 9221120237041090561 4621256167635550208 (by decide) (by decide) (by decide)
 have HC := qd (show Calls Tryz.prog 6 #[.pointer (some ⟨fb, 0, none⟩), .float .f64 9221120237041090561, .float .f64 4621256167635550208] w2 (fun y w' => y = .returned .nilIface ∧ FmTo w E 1 9 1 fb b0 G2 w2 w' (fupd (fupd (fun _ => none) 13832806255468478464 (some 4620693217682128896)) 18444492273895866368 (some 4621256167635550208)) 2 [] 0) from by
  rw [show okey 9221120237041090561 = 18444492273895866368 by decide, show formW 4621256167635550208 = 4621256167635550208 by decide] at hp
  exact hp)
 clear hp
 go_wp2_with fail
 refine HC.out.mono ?_
 rintro y w3 ⟨rfl, G3, hA, hs, hm⟩
 replace HB := qd (HB.out.trans (hm.below HG.out HB.out.size))
 replace HG := qd (show ∀ q ∈ G3, w.heap.size ≤ q from fun q hq => (hs q hq).elim (HG.out q) (fun k => Nat.le_trans HB0.out k))
 replace HB0 := qd HB.out.size
 replace HA := qd hA
 clear hA hs hm HC
 obtain ⟨R, hR⟩ : ∃ R, R = fupd (fupd (fupd (fun _ => none) 13832806255468478464 (some 4620693217682128896)) 18444492273895866368 (some 4621256167635550208)) (okey a) (some (formW v)) := ⟨_, rfl⟩
 obtain ⟨n, hn⟩ : ∃ n, n = upN ((fupd (fupd (fun _ => none) 13832806255468478464 (some 4620693217682128896)) 18444492273895866368 (some 4621256167635550208)) (okey a)) 2 := ⟨_, rfl⟩
 have hn3 : 2 ≤ n ∧ n ≤ 3 := by rw [hn]; unfold upN; split <;> omega
 have H4 := qd (one_cases HLt.out.1 HLt.out.2.1 hR)
 have hp := fm_Put HA.out a v HLt.out.1 HLt.out.2.2 (by decide)
 rw [← hR, ← hn] at hp
 have HC := qd hp
 clear hp hR hn
 go_wp2_with fail
 refine HC.out.mono ?_
 rintro y w4 ⟨rfl, G4, hA, hs, hm⟩
 replace HB := qd (HB.out.trans (hm.below HG.out HB.out.size))
 replace HG := qd (show ∀ q ∈ G4, w.heap.size ≤ q from fun q hq => (hs q hq).elim (HG.out q) (fun k => Nat.le_trans HB0.out k))
 replace HB0 := qd HB.out.size
 replace HA := qd hA
 clear hA hs hm HC
 have HC := qd (fm_Len HA.out)
 go_wp2_with fail
 refine HC.out.mono ?_
 rintro y wq ⟨rfl, rfl⟩
 clear HC
 have hw : IntKind.i64.wrap ((n : Int) - 1) = (n : Int) - 1 := by rw [IntKind.wrap_i64]; omega
 have hpn : ((n - 1 : Nat) : Int) = (n : Int) - 1 := by omega
 have hge := fm_Get HA.out b HLt.out.2.1
 have hde := fun (w' : World) (G' : List Nat) (h : FmAt w E 1 9 1 fb b0 G' w' R n [] 0) => fm_Delete h b HLt.out.2.1
 refine or4 H4.out ?c1 ?c2 ?c3 ?c4
 case' c1 =>
  rintro ⟨d1, hq⟩
  rw [hq] at hge
  replace hde := fun (w' : World) (G' : List Nat) (h : FmAt w E 1 9 1 fb b0 G' w' R n [] 0) => (by have := hde w' G' h; rw [hq] at this; exact this : Calls Tryz.prog 11 #[.pointer (some ⟨fb, 0, none⟩), .float .f64 b] w' (fun y w2 => y = .returned (.bool true) ∧ FmTo w E 1 9 1 fb b0 G' w' w2 (fupd R (okey b) none) (n - 1) [] 0))
  have HDe := qd hde
  clear hde
  have HC := qd (show Calls Tryz.prog 9 #[.pointer (some ⟨fb, 0, none⟩), .float .f64 b] w4 (fun y w' => y = .returned (.tuple #[.float .f64 (formW v), .bool true]) ∧ FmTo w E 1 9 1 fb b0 G4 w4 w' R n [] 0) from hge)
  clear hge hq
  go_wp2_with fail
  refine HC.out.mono ?_
  rintro y w5 ⟨rfl, G5, hA, hs, hm⟩
  replace HB := qd (HB.out.trans (hm.below HG.out HB.out.size))
  replace HG := qd (show ∀ q ∈ G5, w.heap.size ≤ q from fun q hq => (hs q hq).elim (HG.out q) (fun k => Nat.le_trans HB0.out k))
  replace HB0 := qd HB.out.size
  replace HA := qd hA
  clear hA hs hm HC
  rw [d1] at HS1
  go_wp2_with fail
  refine (HS1.out _).mono ?_
  rintro y wq ⟨rfl, rfl⟩
  have hsv := fun (W : World) => law28_same (formW v) v (formW_lt HLt.out.2.2) HLt.out.2.2 W
  rw [formW_form, decide_eq_true rfl] at hsv
  go_wp2_with fail
  refine (hsv _).mono ?_
  rintro y wq ⟨rfl, rfl⟩
  clear hsv d1
  have HC := qd (HDe.out _ _ HA.out)
  clear HDe
  go_wp2_with fail
  refine HC.out.mono ?_
  rintro y w6 ⟨rfl, G6, hA, hs, hm⟩
  replace HB := qd (HB.out.trans (hm.below HG.out HB.out.size))
  replace HG := qd (show ∀ q ∈ G6, w.heap.size ≤ q from fun q hq => (hs q hq).elim (HG.out q) (fun k => Nat.le_trans HB0.out k))
  replace HB0 := qd HB.out.size
  replace HA := qd hA
  clear hA hs hm HC
 case' c2 =>
  rintro ⟨d1, d2, hq⟩
  rw [hq] at hge
  replace hde := fun (w' : World) (G' : List Nat) (h : FmAt w E 1 9 1 fb b0 G' w' R n [] 0) => (by have := hde w' G' h; rw [hq] at this; exact this : Calls Tryz.prog 11 #[.pointer (some ⟨fb, 0, none⟩), .float .f64 b] w' (fun y w2 => y = .returned (.bool true) ∧ FmTo w E 1 9 1 fb b0 G' w' w2 (fupd R (okey b) none) (n - 1) [] 0))
  have HDe := qd hde
  clear hde
  have HC := qd (show Calls Tryz.prog 9 #[.pointer (some ⟨fb, 0, none⟩), .float .f64 b] w4 (fun y w' => y = .returned (.tuple #[.float .f64 4620693217682128896, .bool true]) ∧ FmTo w E 1 9 1 fb b0 G4 w4 w' R n [] 0) from hge)
  clear hge hq
  go_wp2_with fail
  refine HC.out.mono ?_
  rintro y w5 ⟨rfl, G5, hA, hs, hm⟩
  replace HB := qd (HB.out.trans (hm.below HG.out HB.out.size))
  replace HG := qd (show ∀ q ∈ G5, w.heap.size ≤ q from fun q hq => (hs q hq).elim (HG.out q) (fun k => Nat.le_trans HB0.out k))
  replace HB0 := qd HB.out.size
  replace HA := qd hA
  clear hA hs hm HC
  rw [d1] at HS1
  go_wp2_with fail
  refine (HS1.out _).mono ?_
  rintro y wq ⟨rfl, rfl⟩
  rw [d2] at HS2
  go_wp2_with fail
  refine (HS2.out _).mono ?_
  rintro y wq ⟨rfl, rfl⟩
  clear d1 d2
  have HC := qd (HDe.out _ _ HA.out)
  clear HDe
  go_wp2_with fail
  refine HC.out.mono ?_
  rintro y w6 ⟨rfl, G6, hA, hs, hm⟩
  replace HB := qd (HB.out.trans (hm.below HG.out HB.out.size))
  replace HG := qd (show ∀ q ∈ G6, w.heap.size ≤ q from fun q hq => (hs q hq).elim (HG.out q) (fun k => Nat.le_trans HB0.out k))
  replace HB0 := qd HB.out.size
  replace HA := qd hA
  clear hA hs hm HC
 case' c3 =>
  rintro ⟨d1, d2, d3, hq⟩
  rw [hq] at hge
  replace hde := fun (w' : World) (G' : List Nat) (h : FmAt w E 1 9 1 fb b0 G' w' R n [] 0) => (by have := hde w' G' h; rw [hq] at this; exact this : Calls Tryz.prog 11 #[.pointer (some ⟨fb, 0, none⟩), .float .f64 b] w' (fun y w2 => y = .returned (.bool true) ∧ FmTo w E 1 9 1 fb b0 G' w' w2 (fupd R (okey b) none) (n - 1) [] 0))
  have HDe := qd hde
  clear hde
  have HC := qd (show Calls Tryz.prog 9 #[.pointer (some ⟨fb, 0, none⟩), .float .f64 b] w4 (fun y w' => y = .returned (.tuple #[.float .f64 4621256167635550208, .bool true]) ∧ FmTo w E 1 9 1 fb b0 G4 w4 w' R n [] 0) from hge)
  clear hge hq
  go_wp2_with fail
  refine HC.out.mono ?_
  rintro y w5 ⟨rfl, G5, hA, hs, hm⟩
  replace HB := qd (HB.out.trans (hm.below HG.out HB.out.size))
  replace HG := qd (show ∀ q ∈ G5, w.heap.size ≤ q from fun q hq => (hs q hq).elim (HG.out q) (fun k => Nat.le_trans HB0.out k))
  replace HB0 := qd HB.out.size
  replace HA := qd hA
  clear hA hs hm HC
  rw [d1] at HS1
  go_wp2_with fail
  refine (HS1.out _).mono ?_
  rintro y wq ⟨rfl, rfl⟩
  rw [d2] at HS2
  go_wp2_with fail
  refine (HS2.out _).mono ?_
  rintro y wq ⟨rfl, rfl⟩
  go_wp2_with fail
  refine (HNa.out _).mono ?_
  rintro y wq ⟨rfl, rfl⟩
  rw [d3] at HS3
  go_wp2_with fail
  refine (HS3.out _).mono ?_
  rintro y wq ⟨rfl, rfl⟩
  clear d1 d2 d3
  have HC := qd (HDe.out _ _ HA.out)
  clear HDe
  go_wp2_with fail
  refine HC.out.mono ?_
  rintro y w6 ⟨rfl, G6, hA, hs, hm⟩
  replace HB := qd (HB.out.trans (hm.below HG.out HB.out.size))
  replace HG := qd (show ∀ q ∈ G6, w.heap.size ≤ q from fun q hq => (hs q hq).elim (HG.out q) (fun k => Nat.le_trans HB0.out k))
  replace HB0 := qd HB.out.size
  replace HA := qd hA
  clear hA hs hm HC
 case' c4 =>
  rintro ⟨d1, d2, d3, hq⟩
  rw [hq] at hge
  replace hde := fun (w' : World) (G' : List Nat) (h : FmAt w E 1 9 1 fb b0 G' w' R n [] 0) => (by have := hde w' G' h; rw [hq] at this; exact this : Calls Tryz.prog 11 #[.pointer (some ⟨fb, 0, none⟩), .float .f64 b] w' (fun y w2 => y = .returned (.bool false) ∧ FmTo w E 1 9 1 fb b0 G' w' w2 (fupd R (okey b) none) n [] 0))
  have HDe := qd hde
  clear hde
  have HC := qd (show Calls Tryz.prog 9 #[.pointer (some ⟨fb, 0, none⟩), .float .f64 b] w4 (fun y w' => y = .returned (.tuple #[.float .f64 0, .bool false]) ∧ FmTo w E 1 9 1 fb b0 G4 w4 w' R n [] 0) from hge)
  clear hge hq
  go_wp2_with fail
  refine HC.out.mono ?_
  rintro y w5 ⟨rfl, G5, hA, hs, hm⟩
  replace HB := qd (HB.out.trans (hm.below HG.out HB.out.size))
  replace HG := qd (show ∀ q ∈ G5, w.heap.size ≤ q from fun q hq => (hs q hq).elim (HG.out q) (fun k => Nat.le_trans HB0.out k))
  replace HB0 := qd HB.out.size
  replace HA := qd hA
  clear hA hs hm HC
  rw [d1] at HS1
  go_wp2_with fail
  refine (HS1.out _).mono ?_
  rintro y wq ⟨rfl, rfl⟩
  rw [d2] at HS2
  go_wp2_with fail
  refine (HS2.out _).mono ?_
  rintro y wq ⟨rfl, rfl⟩
  go_wp2_with fail
  refine (HNa.out _).mono ?_
  rintro y wq ⟨rfl, rfl⟩
  rw [d3] at HS3
  go_wp2_with fail
  refine (HS3.out _).mono ?_
  rintro y wq ⟨rfl, rfl⟩
  clear d1 d2 d3
  have HC := qd (HDe.out _ _ HA.out)
  clear HDe
  go_wp2_with fail
  refine HC.out.mono ?_
  rintro y w6 ⟨rfl, G6, hA, hs, hm⟩
  replace HB := qd (HB.out.trans (hm.below HG.out HB.out.size))
  replace HG := qd (show ∀ q ∈ G6, w.heap.size ≤ q from fun q hq => (hs q hq).elim (HG.out q) (fun k => Nat.le_trans HB0.out k))
  replace HB0 := qd HB.out.size
  replace HA := qd hA
  clear hA hs hm HC
 all_goals
  try (have hl := fm_Len HA.out; rw [hpn] at hl; go_wp2_with fail; refine hl.mono ?_; rintro y wq ⟨rfl, rfl⟩; clear hl)
  have HC := qd (fm_Map HA.out)
  go_wp2_with fail
  refine HC.out.mono ?_
  rintro y wq ⟨rfl, rfl⟩
  clear HC
  have HC := qd (fm_Open HA.out (by decide) (by decide))
  go_wp2_with fail
  refine HC.out.mono ?_
  rintro y w7 ⟨cb, rfl, G7, hA, hs, hm⟩
  replace HB := qd (HB.out.trans (hm.below HG.out HB.out.size))
  replace HG := qd (show ∀ q ∈ G7, w.heap.size ≤ q from fun q hq => (hs q hq).elim (HG.out q) (fun k => Nat.le_trans HB0.out k))
  replace HB0 := qd HB.out.size
  replace HA := qd hA
  clear hA hs hm HC
  have h7 : ErrAt E w 7 := HEr.out.at_ 7 (by omega) (by omega)
  have H7 := qd h7
  clear h7
  have HC := qd (fm_Pairs_full HA.out (Nat.le_refl 1) H7.out)
  go_wp2_with fail
  refine HC.out.mono ?_
  rintro y w8 ⟨rfl, hb⟩
  replace HA := qd (HA.out.below hb)
  replace HB := qd (below2 HB.out hb)
  replace HB0 := qd HB.out.size
  clear hb HC
  have HC := qd (fm_Sum_full HA.out (Nat.le_refl 1) H7.out)
  go_wp2_with fail
  refine HC.out.mono ?_
  rintro y w9 ⟨rfl, hb⟩
  replace HA := qd (HA.out.below hb)
  replace HB := qd (below2 HB.out hb)
  replace HB0 := qd HB.out.size
  clear hb HC
  have HC := qd (fm_Least_full HA.out (Nat.le_refl 1) H7.out)
  go_wp2_with fail
  refine HC.out.mono ?_
  rintro y w10 ⟨rfl, hb⟩
  replace HA := qd (HA.out.below hb)
  replace HB := qd (below2 HB.out hb)
  replace HB0 := qd HB.out.size
  clear hb HC
  have HC := qd (num_err (HEr.out.below HB.out (Nat.le_refl _)) 7 (by omega) (by omega))
  go_wp2_with fail
  refine HC.out.mono ?_
  rintro y w11 ⟨rfl, hb⟩
  replace HA := qd (HA.out.below hb)
  replace HB := qd (below2 HB.out hb)
  replace HB0 := qd HB.out.size
  clear hb HC
  have HC := qd (num_err (HEr.out.below HB.out (Nat.le_refl _)) 7 (by omega) (by omega))
  go_wp2_with fail
  refine HC.out.mono ?_
  rintro y w12 ⟨rfl, hb⟩
  replace HA := qd (HA.out.below hb)
  replace HB := qd (below2 HB.out hb)
  replace HB0 := qd HB.out.size
  clear hb HC
  have HC := qd (num_err (HEr.out.below HB.out (Nat.le_refl _)) 7 (by omega) (by omega))
  go_wp2_with fail
  refine HC.out.mono ?_
  rintro y w13 ⟨rfl, hb⟩
  replace HA := qd (HA.out.below hb)
  replace HB := qd (below2 HB.out hb)
  replace HB0 := qd HB.out.size
  clear hb HC
  have HC := qd (fm_Map HA.out)
  go_wp2_with fail
  refine HC.out.mono ?_
  rintro y wq ⟨rfl, rfl⟩
  clear HC
  have HC := qd (fm_Close HA.out (j := 0) rfl)
  go_wp2_with fail
  refine HC.out.mono ?_
  rintro y w14 ⟨rfl, G14, hA, hs, hm⟩
  replace HB := qd (HB.out.trans (hm.below HG.out HB.out.size))
  replace HG := qd (show ∀ q ∈ G14, w.heap.size ≤ q from fun q hq => (hs q hq).elim (HG.out q) (fun k => Nat.le_trans HB0.out k))
  replace HB0 := qd HB.out.size
  replace HA := qd hA
  clear hA hs hm HC
  go_wp2
  go_ret
  exact ⟨rfl, HB.out⟩
end Go.Proofs.YtgfcmdmpegomdaaGreatDoor
