/- The meter's counting by its contracts. -/
import Derived.Test.YtbphcldoflekpaaGreatDoorSqT
import Derived.Test.YtbphcldoflekpaaGreatDoorLaneP
import Derived.Test.YtbphcldoflekpaaGreatDoorProg
import Derived.WalkKit
import Derived.WalkSpells
import Derived.WalkLawsBesides
import Derived.LaidEql
import Derived.Stop.Asserts
import Derived.RowKitTokens
import Derived.KernelRfl
import Derived.Outline
namespace Go.Proofs.YtbphcldoflekpaaGreatDoor
set_option maxRecDepth 100000
set_option maxHeartbeats 4000000
open Go.RowKit dA Go.Extern.Stop Go.Stop Go.Extern
section
theorem aJ {W W' : World} {a : Addr} {v : Value} (hb : Below W.heap.size W W') (h : W.cell? a = some v) : W'.cell? a = some v := (hb.cell (World.block_lt_of_cell? W a h)).trans h
theorem bI {a b c : World} (hb : Below b.heap.size b c) (h : Below a.heap.size a b) : Below a.heap.size a c := h.trans (hb.mono h.size)
def qy (a l : bC) (m : Int) : List Value := [.int .i64 a.p, .int .i64 a.v, .int .i64 a.u, .int .i64 l.p, .int .i64 l.v, .int .i64 l.u, .bool false, .int .i64 m]
structure Met (w : World) (mb : Nat) (t : TypeId) (pre post : List Value) (mo : Nat) (a l : bC) (m : Int) : Prop where
 len : pre.length = mo
 blk : aj w mb t (pre ++ (qy a l m ++ post)).toArray
section
variable {w w' : World} {mb mo : Nat} {t : TypeId} {pre post : List Value} {a l : bC} {m : Int}
theorem Met.at_ (h : Met w mb t pre post mo a l m) (i : Nat) (hi : i < 8) : w.cell? ⟨mb, mo + i, none⟩ = (qy a l m)[i]? := by
 rw [h.blk.cell, List.getElem?_toArray, List.getElem?_append_right (by have := h.len; omega), List.getElem?_append_left (by have := h.len; simp [qy]; omega)]
 congr 1; have := h.len; omega
theorem Met.sN (h : Met w mb t pre post mo a l m) (i : Nat) : w.frozen? ⟨mb, i, none⟩ = false := h.blk.frozen i
theorem Met.lt (h : Met w mb t pre post mo a l m) : mb < w.heap.size := h.blk.lt
theorem Met.mod {S : List Nat} (h : Met w mb t pre post mo a l m) (hm : Mod S w w') (hg : mb ∉ S) : Met w' mb t pre post mo a l m := ⟨h.len, h.blk.mod hm hg⟩
instance {w w' : World} {mb : Nat} {t : TypeId} {pre post : List Value} {mo : Nat} {a l : bC} {m : Int} : Md (Met w mb t pre post mo a l m) w w' (Met w' mb t pre post mo a l m) (fun S => mb ∉ S) := ⟨fun h hm hs => Met.mod h hm hs⟩
theorem Met.below (h : Met w mb t pre post mo a l m) (hb : Below w.heap.size w w') : Met w' mb t pre post mo a l m := ⟨h.len, h.blk.below hb h.lt⟩
theorem set_mid (pre x post : List Value) (i : Nat) (u : Value) (hi : i < x.length) : (pre ++ (x ++ post)).toArray.setIfInBounds (pre.length + i) u = (pre ++ (x.set i u ++ post)).toArray := by
 rw [List.setIfInBounds_toArray, List.set_append_right _ _ (by omega), Nat.add_sub_cancel_left, List.set_append_left _ _ hi]
theorem Met.Yo (h : Met w mb t pre post mo a l m) (x : bC) : Met (((w.setCell ⟨mb, mo, none⟩ (.int .i64 x.p)).setCell ⟨mb, mo + 1, none⟩ (.int .i64 x.v)).setCell ⟨mb, mo + 2, none⟩ (.int .i64 x.u)) mb t pre post mo x l m := by
 refine ⟨h.len, ?_⟩
 have := ((h.blk.ak (mo + 0) (.int .i64 x.p)).ak (mo + 1) (.int .i64 x.v)).ak (mo + 2) (.int .i64 x.u)
 rw [← h.len, set_mid _ _ _ _ _ (by simp [qy]), set_mid _ _ _ _ _ (by simp [qy]), set_mid _ _ _ _ _ (by simp [qy])] at this
 rw [← h.len]
 exact this
theorem Met.Kj (h : Met w mb t pre post mo a l m) (x : bC) : Met (((w.setCell ⟨mb, mo + 3, none⟩ (.int .i64 x.p)).setCell ⟨mb, mo + 3 + 1, none⟩ (.int .i64 x.v)).setCell ⟨mb, mo + 3 + 2, none⟩ (.int .i64 x.u)) mb t pre post mo a x m := by
 refine ⟨h.len, ?_⟩
 have := ((h.blk.ak (mo + 3) (.int .i64 x.p)).ak (mo + 4) (.int .i64 x.v)).ak (mo + 5) (.int .i64 x.u)
 rw [← h.len, set_mid _ _ _ _ _ (by simp [qy]), set_mid _ _ _ _ _ (by simp [qy]), set_mid _ _ _ _ _ (by simp [qy])] at this
 rw [← h.len]
 exact this
end
def uV (w : World) (mb : Nat) (t : TypeId) (pre post : List Value) (mo : Nat) (a l : bC) (m : Int) (c : bC) (e : Ending) (w' : World) : Prop :=
 e = .returned undef ∧ Met w' mb t pre post mo (iV a c) (iV l c) m ∧ Mod [mb] w w'
theorem GV (mb : Nat) (t : TypeId) (pre post : List Value) (mo : Nat) (a l : bC) (m : Int) (c : bC) (w : World) (h : Met w mb t pre post mo a l m) :
  Calls Tryz.prog 140 #[.pointer (some ⟨mb, mo, none⟩), lI c] w (uV w mb t pre post mo a l m c) := by
 have HP := qd (fun (x : bC) (V : World) => show Calls Tryz.prog 58 #[.agg #[.int .i64 x.p, .int .i64 x.v, .int .i64 x.u], .agg #[.int .i64 c.p, .int .i64 c.v, .int .i64 c.u]] V (fun e w' => e = .returned (.agg #[.int .i64 (iV x c).p, .int .i64 (iV x c).v, .int .i64 (iV x c).u]) ∧ Below V.heap.size V w') from zk x c V)
 unfold lI
 have hB0 := (Below.refl w.heap.size w).alloc (Nat.le_refl _) (.cells #[.int .i64 c.p, .int .i64 c.v, .int .i64 c.u] 68)
 have hM := h.below hB0
 have hC := aj.new w 68 #[.int .i64 c.p, .int .i64 c.v, .int .i64 c.u]
 have hlt := h.lt
 obtain ⟨W, hW⟩ : ∃ W, W = w.alloc (.cells #[.int .i64 c.p, .int .i64 c.v, .int .i64 c.u] 68) := ⟨_, rfl⟩
 obtain ⟨p, hp⟩ : ∃ p, p = w.heap.size := ⟨_, rfl⟩
 rw [← hW] at hB0 hM hC
 rw [← hp] at hC
 have m0 : W.cell? ⟨mb, mo, none⟩ = some (.int .i64 a.p) := hM.at_ 0 (by omega)
 have m1 : W.cell? ⟨mb, mo + 1, none⟩ = some (.int .i64 a.v) := hM.at_ 1 (by omega)
 have m2 : W.cell? ⟨mb, mo + 2, none⟩ = some (.int .i64 a.u) := hM.at_ 2 (by omega)
 have m3 : W.cell? ⟨mb, mo + 3, none⟩ = some (.int .i64 l.p) := hM.at_ 3 (by omega)
 have m4 : W.cell? ⟨mb, mo + 3 + 1, none⟩ = some (.int .i64 l.v) := hM.at_ 4 (by omega)
 have m5 : W.cell? ⟨mb, mo + 3 + 2, none⟩ = some (.int .i64 l.u) := hM.at_ 5 (by omega)
 obtain ⟨c0, c1, c2⟩ := hC.c3
 have HW := qd (And.intro hp hW)
 have HB0 := qd hB0
 clear hW hp hC h hB0
 go_in
 go_upto_region 1 with fail
 rw [← HW.out.2, ← HW.out.1]
 refine rT (fun w' => (w'.cell? ⟨mb, mo, none⟩ = some (.int .i64 a.p) ∧ w'.cell? ⟨mb, mo + 1, none⟩ = some (.int .i64 a.v) ∧ w'.cell? ⟨mb, mo + 2, none⟩ = some (.int .i64 a.u) ∧ w'.cell? ⟨mb, mo + 3, none⟩ = some (.int .i64 l.p) ∧ w'.cell? ⟨mb, mo + 3 + 1, none⟩ = some (.int .i64 l.v) ∧ w'.cell? ⟨mb, mo + 3 + 2, none⟩ = some (.int .i64 l.u) ∧ w'.cell? ⟨p, 0, none⟩ = some (.int .i64 c.p) ∧ w'.cell? ⟨p, 1, none⟩ = some (.int .i64 c.v) ∧ w'.cell? ⟨p, 2, none⟩ = some (.int .i64 c.u)) ∧ Below W.heap.size W w') [16, 19] ?_
 have hHeld : (fun w' => (w'.cell? ⟨mb, mo, none⟩ = some (.int .i64 a.p) ∧ w'.cell? ⟨mb, mo + 1, none⟩ = some (.int .i64 a.v) ∧ w'.cell? ⟨mb, mo + 2, none⟩ = some (.int .i64 a.u) ∧ w'.cell? ⟨mb, mo + 3, none⟩ = some (.int .i64 l.p) ∧ w'.cell? ⟨mb, mo + 3 + 1, none⟩ = some (.int .i64 l.v) ∧ w'.cell? ⟨mb, mo + 3 + 2, none⟩ = some (.int .i64 l.u) ∧ w'.cell? ⟨p, 0, none⟩ = some (.int .i64 c.p) ∧ w'.cell? ⟨p, 1, none⟩ = some (.int .i64 c.v) ∧ w'.cell? ⟨p, 2, none⟩ = some (.int .i64 c.u)) ∧ Below W.heap.size W w') (World.drew W) := ⟨⟨m0, m1, m2, m3, m4, m5, c0, c1, c2⟩, (Below.refl _ _).drew⟩
 refine vW 0 rfl ?_
 refine vW 1 rfl ?_
 refine vW 2 rfl ?_
 refine vW 3 rfl ?_
 refine vW 4 rfl ?_
 refine vT 5 rfl ?_
 refine vT 6 rfl ?_
 refine vW 8 rfl ?_
 refine vW 9 rfl ?_
 refine vW 10 rfl ?_
 refine vT 11 rfl ?_
 refine vT 12 rfl ?_
 refine nT 7 rfl fun K hK => ?_
 go_simp
 refine (HP.out a _).mono ?_
 rintro e w1 ⟨rfl, hb1⟩
 replace hb1 : Below W.heap.size W w1 := bI hb1 (Below.refl _ _).drew
 go_wp2_with fail
 have hHeld := show (fun w' => (w'.cell? ⟨mb, mo, none⟩ = some (.int .i64 a.p) ∧ w'.cell? ⟨mb, mo + 1, none⟩ = some (.int .i64 a.v) ∧ w'.cell? ⟨mb, mo + 2, none⟩ = some (.int .i64 a.u) ∧ w'.cell? ⟨mb, mo + 3, none⟩ = some (.int .i64 l.p) ∧ w'.cell? ⟨mb, mo + 3 + 1, none⟩ = some (.int .i64 l.v) ∧ w'.cell? ⟨mb, mo + 3 + 2, none⟩ = some (.int .i64 l.u) ∧ w'.cell? ⟨p, 0, none⟩ = some (.int .i64 c.p) ∧ w'.cell? ⟨p, 1, none⟩ = some (.int .i64 c.v) ∧ w'.cell? ⟨p, 2, none⟩ = some (.int .i64 c.u)) ∧ Below W.heap.size W w') _ from ⟨⟨aJ hb1 m0, aJ hb1 m1, aJ hb1 m2, aJ hb1 m3, aJ hb1 m4, aJ hb1 m5, aJ hb1 c0, aJ hb1 c1, aJ hb1 c2⟩, hb1⟩
 refine kO hK ?_
 clear hK K
 refine nT 13 rfl fun K hK => ?_
 go_simp
 refine (HP.out l _).mono ?_
 rintro e w2 ⟨rfl, hb2⟩
 replace hb2 : Below W.heap.size W w2 := bI hb2 hb1
 have hM2 := hM.below hb2
 have fz := hM2.sN
 have n0 := aJ hb2 m0
 have n1 := aJ hb2 m1
 have n2 := aJ hb2 m2
 have n3 := aJ hb2 m3
 have n4 := aJ hb2 m4
 have n5 := aJ hb2 m5
 have g0 := fz mo
 have g1 := fz (mo + 1)
 have g2 := fz (mo + 2)
 have g3 := fz (mo + 3)
 have g4 := fz (mo + 3 + 1)
 have g5 := fz (mo + 3 + 2)
 clear fz
 go_wp2_with fail
 have hHeld := show (fun w' => (w'.cell? ⟨mb, mo, none⟩ = some (.int .i64 a.p) ∧ w'.cell? ⟨mb, mo + 1, none⟩ = some (.int .i64 a.v) ∧ w'.cell? ⟨mb, mo + 2, none⟩ = some (.int .i64 a.u) ∧ w'.cell? ⟨mb, mo + 3, none⟩ = some (.int .i64 l.p) ∧ w'.cell? ⟨mb, mo + 3 + 1, none⟩ = some (.int .i64 l.v) ∧ w'.cell? ⟨mb, mo + 3 + 2, none⟩ = some (.int .i64 l.u) ∧ w'.cell? ⟨p, 0, none⟩ = some (.int .i64 c.p) ∧ w'.cell? ⟨p, 1, none⟩ = some (.int .i64 c.v) ∧ w'.cell? ⟨p, 2, none⟩ = some (.int .i64 c.u)) ∧ Below W.heap.size W w') _ from ⟨⟨aJ hb2 m0, aJ hb2 m1, aJ hb2 m2, aJ hb2 m3, aJ hb2 m4, aJ hb2 m5, aJ hb2 c0, aJ hb2 c1, aJ hb2 c2⟩, hb2⟩
 refine kO hK ?_
 clear hK K
 refine vW 14 rfl ?_
 refine vW 15 rfl ?_
 refine nT 16 rfl fun K hK => ?_
 go_simp
 refine kO hK ?_
 clear hK K
 refine vL 17 rfl ?_
 refine vL 18 rfl ?_
 refine nT 19 rfl fun K hK => ?_
 go_simp
 refine kO hK ?_
 clear hK K
 refine aT (by kernel_rfl) ?_ _
 go_wp2
 go_end0
 exact ⟨rfl, (hM2.Yo _).Kj _, ((((((Mod.of_below (HB0.out.trans (hb2.mono HB0.out.size)) [mb]).ak (.inl (by simp)) _ _).ak (.inl (by simp)) _ _).ak (.inl (by simp)) _ _).ak (.inl (by simp)) _ _).ak (.inl (by simp)) _ _).ak (.inl (by simp)) _ _⟩
end
def aG (p : Option Addr) (c : bC) : Value := .agg #[.pointer p, .int .i64 c.p, .int .i64 c.v, .int .i64 c.u]
theorem iN (p : Option Addr) (w : World) : Calls Tryz.prog 55 #[.pointer p] w fun e w' => e = .returned (aG p ⟨1, 0, 0⟩) ∧ Below w.heap.size w w' := by
 unfold aG
 go_in
 go_wp2
 exact bodyPost_ret (v := .agg #[.pointer p, .int .i64 1, .int .i64 0, .int .i64 0]) (by simp [results, Tryz.results55, go_sem]) rfl ⟨rfl, (Below.refl _ _).alloc (Nat.le_refl _) _⟩
theorem ug (p : Option Addr) (w : World) : Calls Tryz.prog 244 #[.pointer p] w fun e w' => e = .returned (aG p ⟨0, 1, 0⟩) ∧ Below w.heap.size w w' := by
 unfold aG
 go_in
 go_wp2
 exact bodyPost_ret (v := .agg #[.pointer p, .int .i64 0, .int .i64 1, .int .i64 0]) (by simp [results, Tryz.results244, go_sem]) rfl ⟨rfl, (Below.refl _ _).alloc (Nat.le_refl _) _⟩
theorem FZ (c : bC) (w : World) : Calls Tryz.prog 155 #[aG none c] w fun e w' => e = .returned undef ∧ Below w.heap.size w w' := by
 unfold aG
 go_in
 go_wp2
 go_end0
 exact ⟨rfl, (Below.refl _ _).alloc (Nat.le_refl _) _⟩
theorem uV.from {w w1 w' : World} {mb : Nat} {t : TypeId} {pre post : List Value} {mo : Nat} {a l : bC} {m : Int} {c : bC} {e : Ending} (h : uV w1 mb t pre post mo a l m c e w') (hb : Below w.heap.size w w1) : uV w mb t pre post mo a l m c e w' :=
 ⟨h.1, h.2.1, (Mod.of_below hb [mb]).then h.2.2⟩
theorem Pn (mb : Nat) (t : TypeId) (pre post : List Value) (mo : Nat) (a l : bC) (m : Int) (c : bC) (w : World) (h : Met w mb t pre post mo a l m) :
  Calls Tryz.prog 155 #[aG (some ⟨mb, mo, none⟩) c] w (uV w mb t pre post mo a l m c) := by
 unfold aG
 have hB := (Below.refl w.heap.size w).alloc (Nat.le_refl _) (.cells #[.pointer (some ⟨mb, mo, none⟩), .int .i64 c.p, .int .i64 c.v, .int .i64 c.u] 115)
 have HA := qd (show Calls Tryz.prog 140 #[.pointer (some ⟨mb, mo, none⟩), .agg #[.int .i64 c.p, .int .i64 c.v, .int .i64 c.u]] (w.alloc (.cells #[.pointer (some ⟨mb, mo, none⟩), .int .i64 c.p, .int .i64 c.v, .int .i64 c.u] 115)) _ from GV mb t pre post mo a l m c _ (h.below hB))
 have HB := qd hB
 clear h hB
 go_in
 go_wp2_with fail
 refine HA.out.mono ?_
 rintro e w1 ⟨rfl, hM, hm⟩
 go_wp2
 go_end0
 exact ⟨rfl, hM, (Mod.of_below HB.out [mb]).then hm⟩
theorem CO (mb : Nat) (t : TypeId) (pre post : List Value) (mo : Nat) (a l : bC) (m : Int) (w : World) (h : Met w mb t pre post mo a l m) :
  Calls Tryz.prog 52 #[.pointer (some ⟨mb, mo, none⟩)] w fun e w' => e = .returned undef ∧ Met w' mb t pre post mo a ⟨0, 0, 0⟩ m ∧ Mod [mb] w w' := by
 have m3 : w.cell? ⟨mb, mo + 3, none⟩ = some (.int .i64 l.p) := h.at_ 3 (by omega)
 have m4 : w.cell? ⟨mb, mo + 3 + 1, none⟩ = some (.int .i64 l.v) := h.at_ 4 (by omega)
 have m5 : w.cell? ⟨mb, mo + 3 + 2, none⟩ = some (.int .i64 l.u) := h.at_ 5 (by omega)
 have g3 := h.sN (mo + 3)
 have g4 := h.sN (mo + 3 + 1)
 have g5 := h.sN (mo + 3 + 2)
 have HM := qd h
 clear h
 go_in
 go_wp2
 go_end0
 exact ⟨rfl, HM.out.Kj ⟨0, 0, 0⟩, (((Mod.refl [mb] w).ak (.inl (by simp)) _ _).ak (.inl (by simp)) _ _).ak (.inl (by simp)) _ _⟩
theorem qz (mb : Nat) (t : TypeId) (pre post : List Value) (mo : Nat) (a l : bC) (m n : Int) (hn : 1 ≤ n) (w : World) (h : Met w mb t pre post mo a l m) :
  Calls Tryz.prog 92 #[.pointer (some ⟨mb, mo, none⟩), .int .i64 n] w (uV w mb t pre post mo a l m ⟨0, 0, n⟩) := by
 have m6 : w.cell? ⟨mb, mo + 6, none⟩ = some (.bool false) := h.at_ 6 (by omega)
 have hn' : ¬ n < 1 := by omega
 have hz := (Below.refl w.heap.size w).drew
 have HA := qd (show Calls Tryz.prog 140 #[.pointer (some ⟨mb, mo, none⟩), .agg #[.int .i64 0, .int .i64 0, .int .i64 n]] w.drew _ from GV mb t pre post mo a l m ⟨0, 0, n⟩ _ (h.below hz))
 clear h hn
 go_in
 go_wp2
 refine rT (fun w' => w'.cell? ⟨mb, mo + 6, none⟩ = some (.bool false)) [] ?_
 have hHeld := m6
 refine vW 0 rfl ?_
 refine vW 1 rfl ?_
 refine vW 2 rfl ?_
 refine vT 3 rfl ?_
 refine vW 4 rfl ?_
 refine vU 5 rfl ?_
 refine vU 6 rfl ?_
 refine vU 7 rfl ?_
 refine vU 8 rfl ?_
 refine vU 9 rfl ?_
 refine vU 10 rfl ?_
 refine vU 11 rfl ?_
 refine vU 12 rfl ?_
 refine vU 13 rfl ?_
 refine vU 14 rfl ?_
 refine vU 15 rfl ?_
 refine vU 16 rfl ?_
 refine vW 17 rfl ?_
 refine aT (by kernel_rfl) ?_ _
 go_wp2_with fail
 refine HA.out.mono ?_
 rintro e w1 ⟨rfl, hM, hm⟩
 go_wp2
 go_end0
 exact ⟨rfl, hM, (Mod.of_below hz [mb]).then hm⟩
def bF (g : Addr) : Value := .agg #[.pointer (some g)]
theorem F5 (g : Addr) (c : bC) (w : World) : Calls Tryz.prog 112 #[.pointer (some g), aG none c] w fun e w' => e = .returned (bF g) ∧ Below w.heap.size w w' := by
 have hB := ((Below.refl w.heap.size w).alloc (Nat.le_refl _) (.cells #[.pointer none, .int .i64 c.p, .int .i64 c.v, .int .i64 c.u] 115)).alloc (by simp) (.cells #[.pointer none] 159)
 have hD := aj.new (w.alloc (.cells #[.pointer none, .int .i64 c.p, .int .i64 c.v, .int .i64 c.u] 115)) 159 #[.pointer none]
 rw [World.size_alloc] at hD
 obtain ⟨W, hW⟩ : ∃ W, W = (w.alloc (.cells #[.pointer none, .int .i64 c.p, .int .i64 c.v, .int .i64 c.u] 115)).alloc (.cells #[.pointer none] 159) := ⟨_, rfl⟩
 rw [← hW] at hB hD
 have HV := qd (FZ c W)
 unfold aG at HV ⊢
 try unfold bF
 have HW := qd hW
 clear hW
 go_in
 go_wp2_with fail
 rw [← HW.out]
 refine (HV.out).mono ?_
 rintro e w1 ⟨rfl, hb⟩
 have hD1 := hD.below hb hD.lt
 have d0 := hD1.cell 0
 have f0 := hD1.frozen 0
 simp only [List.getElem?_toArray, List.getElem?_cons_zero] at d0
 have hbw := hB.trans (hb.mono hB.size)
 go_wp2
 exact bodyPost_ret (v := .agg #[.pointer (some g)]) (by simp [results, Tryz.results112, go_sem, d0]) rfl ⟨rfl, hbw.setCell (p := ⟨w.heap.size + 1, 0, none⟩) (by simp) _⟩
def Ux (w : World) (mb : Nat) (t : TypeId) (pre post : List Value) (mo : Nat) (a l : bC) (m : Int) (c : bC) (g : Addr) (e : Ending) (w' : World) : Prop :=
 e = .returned (bF g) ∧ Met w' mb t pre post mo (iV a c) (iV l c) m ∧ Mod [mb] w w'
theorem uJ (g : Addr) (mb : Nat) (t : TypeId) (pre post : List Value) (mo : Nat) (a l : bC) (m : Int) (c : bC) (w : World) (h : Met w mb t pre post mo a l m) : Calls Tryz.prog 112 #[.pointer (some g), aG (some ⟨mb, mo, none⟩) c] w (Ux w mb t pre post mo a l m c g) := by
 have hB := ((Below.refl w.heap.size w).alloc (Nat.le_refl _) (.cells #[.pointer (some ⟨mb, mo, none⟩), .int .i64 c.p, .int .i64 c.v, .int .i64 c.u] 115)).alloc (by simp) (.cells #[.pointer none] 159)
 have hD := aj.new (w.alloc (.cells #[.pointer (some ⟨mb, mo, none⟩), .int .i64 c.p, .int .i64 c.v, .int .i64 c.u] 115)) 159 #[.pointer none]
 rw [World.size_alloc] at hD
 obtain ⟨W, hW⟩ : ∃ W, W = (w.alloc (.cells #[.pointer (some ⟨mb, mo, none⟩), .int .i64 c.p, .int .i64 c.v, .int .i64 c.u] 115)).alloc (.cells #[.pointer none] 159) := ⟨_, rfl⟩
 rw [← hW] at hB hD
 have hlt := h.lt
 have HV := qd (Pn mb t pre post mo a l m c W (h.below hB))
 clear h
 unfold aG at HV ⊢
 try unfold bF
 have HW := qd hW
 clear hW
 go_in
 go_wp2_with fail
 rw [← HW.out]
 refine (HV.out).mono ?_
 rintro e w1 ⟨rfl, hM, hm⟩
 have hne : w.heap.size + 1 ≠ mb := by omega
 have hD1 := hD.mod hm (by simpa using hne)
 have d0 := hD1.cell 0
 have f0 := hD1.frozen 0
 simp only [List.getElem?_toArray, List.getElem?_cons_zero] at d0
 have hbw := (Mod.of_below hB [mb]).then hm
 go_wp2
 exact bodyPost_ret (v := .agg #[.pointer (some g)]) (by simp [results, Tryz.results112, go_sem, d0]) rfl ⟨rfl, ⟨hM.len, hM.blk.far (p := ⟨w.heap.size + 1, 0, none⟩) (fun e => hne e.symm) _⟩, hbw.ak (.inr (by simp)) _ _⟩
section
variable {E : Nat → Addr} {w w' : World} {B j : Nat}
theorem Kl (v : Value) (w : World) : (Extern.ReflectliteType.typeOf #[.iface 286 v]).run Tryz.prog w = .ok (.iface 178 (.agg #[.pointer (some ⟨17, 286, none⟩)])) w := by kernel_rfl
def Uy : Array Value → Sem Value := Extern.ReflectliteType.method fun t => do Extern.Rtype.noPackHeld "Comparable" t; pure (.bool (← typeInfo t).comparable)
theorem Ay (w : World) : (Uy #[.agg #[.pointer (some ⟨17, 286, none⟩)]]).run Tryz.prog w = .ok (.bool true) w := by kernel_rfl
theorem sO (v : Value) (w : World) : (Go.method 438 178 v "Comparable").run Tryz.prog w = .ok (262, v) w := by kernel_rfl
theorem Ri : (Tryz.prog.info? 286).map (·.comparable) = some true := by kernel_rfl
theorem Rj : (Tryz.prog.info? 326).map (·.size) = some 1 := by kernel_rfl
theorem aaY (v : Value) (xT : TypeId) (w : World) : (Instr.typeAssert (.iface 286 v) xT 180 true).run Tryz.prog w = .ok (.tuple #[.nilIface, .bool false]) w := run_typeAssert_lacksB Tryz.underlying180 (by kernel_rfl) (by kernel_rfl) v xT w
theorem Rk (v : Value) (xT : TypeId) (w : World) : (Instr.typeAssert (.iface 286 v) xT 183 true).run Tryz.prog w = .ok (.tuple #[.nilIface, .bool false]) w := run_typeAssert_lacksB Tryz.underlying183 (by kernel_rfl) (by kernel_rfl) v xT w
theorem Po (v : Value) (xT : TypeId) (w : World) : (Instr.typeAssert (.iface 286 v) xT 184 true).run Tryz.prog w = .ok (.tuple #[.nilIface, .bool false]) w := run_typeAssert_lacksB Tryz.underlying184 (by kernel_rfl) (by kernel_rfl) v xT w
def acM (a : Addr) : Value := .iface 286 (.pointer (some a))
theorem NS (a : Addr) (w : World) :
  Calls Tryz.prog 38 #[.iface 286 (.pointer (some a)), .iface 286 (.pointer (some a))] w fun e w' => e = .returned (.bool true) ∧ w = w' := by
 obtain ⟨i, hi, hcmp⟩ := Option.map_eq_some_iff.1 Ri
 obtain ⟨j, hj, hjs⟩ := Option.map_eq_some_iff.1 Rj
 have h8 := @run_callFunc_extern Tryz.prog 67 _ Extern.ReflectliteType.typeOf Tryz.func67 (by kernel_rfl) (by kernel_rfl) (by kernel_rfl) (by kernel_rfl)
 have h32 := @run_callFunc_extern Tryz.prog 262 _ Uy Tryz.func262 (by kernel_rfl) (by kernel_rfl) (by kernel_rfl) (by kernel_rfl)
 have tT := Kl
 have cT := Ay
 have mR := sO
 have heq := run_eql_iface_ptr_same (P := Tryz.prog) w a Tryz.underlying31 Tryz.underlying286 hi hcmp hj
 go_in
 go_wp2
 refine wp_loop_rounds 1 ?_
 rw [rounds_succ]
 go_wp2
 go_ret
 exact ⟨rfl, rfl⟩
theorem Uz (a b : Addr) (ca cb : Array Value) (ta tb : TypeId) (w : World) (hne : a ≠ b) (ha : w.heap[a.block]? = some (.cells ca ta (0, 0))) (hb : w.heap[b.block]? = some (.cells cb tb (0, 0))) :
  Calls Tryz.prog 38 #[.iface 286 (.pointer (some a)), .iface 286 (.pointer (some b))] w fun e w' => e = .returned (.bool false) ∧ w = w' := by
 obtain ⟨i, hi, hcmp⟩ := Option.map_eq_some_iff.1 Ri
 obtain ⟨j, hj, hjs⟩ := Option.map_eq_some_iff.1 Rj
 have h8 := @run_callFunc_extern Tryz.prog 67 _ Extern.ReflectliteType.typeOf Tryz.func67 (by kernel_rfl) (by kernel_rfl) (by kernel_rfl) (by kernel_rfl)
 have h32 := @run_callFunc_extern Tryz.prog 262 _ Uy Tryz.func262 (by kernel_rfl) (by kernel_rfl) (by kernel_rfl) (by kernel_rfl)
 have tT := Kl
 have cT := Ay
 have mR := sO
 have nE := aaY
 have uE := Rk
 have vE := Po
 have heq := run_eql_iface_ptr_other (P := Tryz.prog) w Tryz.underlying31 Tryz.underlying286 hi hcmp hj (by rw [hjs]; decide) hne ha hb
 go_in
 go_wp2
 refine wp_loop_rounds 1 ?_
 rw [rounds_succ]
 go_wp2
 go_ret
 exact ⟨rfl, rfl⟩
def gE : Nat → Nat
 | 1 => 1 | 2 => 4 | 3 => 6 | 4 => 7 | 5 => 8 | 6 => 0 | 7 => 5 | 8 => 9
 | 9 => 10 | 10 => 3 | 11 => 11 | 12 => 2 | 13 => 12 | 14 => 13 | 15 => 14 | _ => 15
structure eZ (E : Nat → Addr) (w : World) : Prop where
 cell : ∀ k, 1 ≤ k → k ≤ 16 → w.cell? ⟨gE k, 0, none⟩ = some (.iface 286 (.pointer (some (E k))))
 obj : ∀ k, 1 ≤ k → k ≤ 16 → ∃ c t, w.heap[(E k).block]? = some (.cells c t (0, 0))
 inj : ∀ j k, 1 ≤ j → j ≤ 16 → 1 ≤ k → k ≤ 16 → E j = E k → j = k
theorem eZ.of_block (h : eZ E w) (hb : ∀ k, k < w.heap.size → w'.heap[k]? = w.heap[k]?) : eZ E w' := by
 refine ⟨fun k h1 h2 => ?_, fun k h1 h2 => ?_, h.inj⟩
 ·have hc := h.cell k h1 h2
  rw [World.cell?_of_block (w := w) (hb _ (World.block_lt_of_cell? w _ hc))]
  exact hc
 ·obtain ⟨c, t, ho⟩ := h.obj k h1 h2
  have : (E k).block < w.heap.size := (Array.getElem?_eq_some_iff.1 ho).1
  exact ⟨c, t, (hb _ this).trans ho⟩
theorem eZ.below (h : eZ E w) (hb : Below B w w') (hB : w.heap.size ≤ B) : eZ E w' := h.of_block fun k hk => hb.block k (by omega)
theorem eZ.alloc (h : eZ E w) (o : Obj) : eZ E (w.alloc o) := h.of_block fun k hk => Below.heap_alloc w o k hk
theorem eZ.drew (h : eZ E w) : eZ E w.drew := h.of_block fun _ _ => rfl
theorem eZ.drewN (h : eZ E w) (n : Nat) : eZ E (w.drewN n) := h.of_block fun _ _ => rfl
def fJ (E : Nat → Addr) (w : World) (k : Nat) : Prop := w.cell? ⟨gE k, 0, none⟩ = some (.iface 286 (.pointer (some (E k))))
theorem fJ.of_block (h : fJ E w j) (hb : ∀ k, k < w.heap.size → w'.heap[k]? = w.heap[k]?) : fJ E w' j :=
 (World.cell?_of_block (hb _ (World.block_lt_of_cell? w _ h))).trans h
theorem fJ.below (h : fJ E w j) (hb : Below B w w') (hB : w.heap.size ≤ B) : fJ E w' j := h.of_block fun k hk => hb.block k (by omega)
theorem fJ.alloc (h : fJ E w j) (o : Obj) : fJ E (w.alloc o) j := h.of_block fun k hk => Below.heap_alloc w o k hk
theorem fJ.drewN (h : fJ E w j) (n : Nat) : fJ E (w.drewN n) j := h.of_block fun _ _ => rfl
theorem eZ.at_ (h : eZ E w) (k : Nat) (h1 : 1 ≤ k) (h2 : k ≤ 16) : fJ E w k := h.cell k h1 h2
def kT (E : Nat → Addr) (k : Nat) : Value := if k = 0 then .nilIface else .iface 286 (.pointer (some (E k)))
theorem GX (E : Nat → Addr) : kT E 0 = .nilIface := rfl
theorem jd (E : Nat → Addr) {k : Nat} (h : 1 ≤ k) : kT E k = .iface 286 (.pointer (some (E k))) := by unfold kT; rw [if_neg (by omega)]
theorem Yp (h : eZ E w) (j k : Nat) (h1 : 1 ≤ j) (h2 : j ≤ 16) (h3 : 1 ≤ k) (h4 : k ≤ 16) :
  Calls Tryz.prog 38 #[.iface 286 (.pointer (some (E j))), .iface 286 (.pointer (some (E k)))] w fun e w' => e = .returned (.bool (j == k)) ∧ w = w' := by
 by_cases hjk : j = k
 ·subst hjk
  exact (NS (E j) w).mono fun e w' ⟨he, hw⟩ => ⟨by rw [he]; simp, hw⟩
 ·obtain ⟨c, t, ho⟩ := h.obj j h1 h2
  obtain ⟨c', t', ho'⟩ := h.obj k h3 h4
  exact (Uz (E j) (E k) c c' t t' w (fun e => hjk (h.inj j k h1 h2 h3 h4 e)) ho ho').mono fun e w' ⟨he, hw⟩ => ⟨by rw [he]; simp [hjk], hw⟩
def oV (E : Nat → Addr) : List Value := (List.range 16).map fun i => .iface 286 (.pointer (some (E (i + 1))))
theorem Yq (h : eZ E w) :
  Calls Tryz.prog 46 #[] w fun e w' => e = .returned (.slice (some ⟨w.heap.size, 0, none⟩) 16 16) ∧ w.alloc (.cells (oV E).toArray 31) = w' := by
 have h1 := h.cell 1 (by omega) (by omega)
 have h2 := h.cell 2 (by omega) (by omega)
 have h3 := h.cell 3 (by omega) (by omega)
 have h4 := h.cell 4 (by omega) (by omega)
 have h5 := h.cell 5 (by omega) (by omega)
 have h6 := h.cell 6 (by omega) (by omega)
 have h7 := h.cell 7 (by omega) (by omega)
 have h8 := h.cell 8 (by omega) (by omega)
 have h9 := h.cell 9 (by omega) (by omega)
 have h10 := h.cell 10 (by omega) (by omega)
 have h11 := h.cell 11 (by omega) (by omega)
 have h12 := h.cell 12 (by omega) (by omega)
 have h13 := h.cell 13 (by omega) (by omega)
 have h14 := h.cell 14 (by omega) (by omega)
 have h15 := h.cell 15 (by omega) (by omega)
 have h16 := h.cell 16 (by omega) (by omega)
 simp only [gE] at h1 h2 h3 h4 h5 h6 h7 h8 h9 h10 h11 h12 h13 h14 h15 h16
 go_in
 go_wp2
 go_ret
 exact ⟨rfl, rfl⟩
end
end Go.Proofs.YtbphcldoflekpaaGreatDoor
