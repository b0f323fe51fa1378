/- The meter's counting by its contracts. -/
import Derived.Test.YtcgjgfgkdoohlaaGreatDoorSqT
import Derived.Test.YtcgjgfgkdoohlaaGreatDoorLaneP
import Derived.Test.YtcgjgfgkdoohlaaGreatDoorProg
import Derived.WalkKit
import Derived.WalkSpells
import Derived.WalkLawsBesides
import Derived.LaidEql
import Derived.Stop.Asserts
import Derived.RowKitTokens
import Derived.KernelRfl
import Derived.Outline
namespace Go.Proofs.YtcgjgfgkdoohlaaGreatDoor
section
set_option maxRecDepth 100000
set_option maxHeartbeats 4000000
open Go.RowKit AmC
theorem cell_in {W W' : World} {a : Addr} {v : Value} (hb : Below W.heap.size W W') (h : W.cell? a = some v) : W'.cell? a = some v := (hb.cell (World.block_lt_of_cell? W a h)).trans h
theorem below_nx {a b c : World} (hb : Below b.heap.size b c) (h : Below a.heap.size a b) : Below a.heap.size a c := h.trans (hb.mono h.size)
def mCells (a l : Cnt) (m : Int) : List Value := [.int .i64 a.p, .int .i64 a.v, .int .i64 a.u, .int .i64 l.p, .int .i64 l.v, .int .i64 l.u, .bool false, .int .i64 m]
structure Met (w : World) (mb : Nat) (t : TypeId) (pre post : List Value) (mo : Nat) (a l : Cnt) (m : Int) : Prop where
 len : pre.length = mo
 blk : Blk w mb t (pre ++ (mCells a l m ++ post)).toArray
section
variable {w w' : World} {mb mo : Nat} {t : TypeId} {pre post : List Value} {a l : Cnt} {m : Int}
theorem Met.at_ (h : Met w mb t pre post mo a l m) (i : Nat) (hi : i < 8) : w.cell? ⟨mb, mo + i, none⟩ = (mCells a l m)[i]? := by
 rw [h.blk.cell, List.getElem?_toArray, List.getElem?_append_right (by have := h.len; omega), List.getElem?_append_left (by have := h.len; simp [mCells]; omega)]
 congr 1; have := h.len; omega
theorem Met.frz (h : Met w mb t pre post mo a l m) (i : Nat) : w.frozen? ⟨mb, i, none⟩ = false := h.blk.frozen i
theorem Met.lt (h : Met w mb t pre post mo a l m) : mb < w.heap.size := h.blk.lt
theorem Met.mod {S : List Nat} (h : Met w mb t pre post mo a l m) (hm : Mod S w w') (hg : mb ∉ S) : Met w' mb t pre post mo a l m := ⟨h.len, h.blk.mod hm hg⟩
instance {w w' : World} {mb : Nat} {t : TypeId} {pre post : List Value} {mo : Nat} {a l : Cnt} {m : Int} : Md (Met w mb t pre post mo a l m) w w' (Met w' mb t pre post mo a l m) (fun S => mb ∉ S) := ⟨fun h hm hs => Met.mod h hm hs⟩
theorem Met.below (h : Met w mb t pre post mo a l m) (hb : Below w.heap.size w w') : Met w' mb t pre post mo a l m := ⟨h.len, h.blk.below hb h.lt⟩
theorem set_mid (pre x post : List Value) (i : Nat) (u : Value) (hi : i < x.length) : (pre ++ (x ++ post)).toArray.setIfInBounds (pre.length + i) u = (pre ++ (x.set i u ++ post)).toArray := by
 rw [List.setIfInBounds_toArray, List.set_append_right _ _ (by omega), Nat.add_sub_cancel_left, List.set_append_left _ _ hi]
theorem Met.set_all (h : Met w mb t pre post mo a l m) (x : Cnt) : Met (((w.setCell ⟨mb, mo, none⟩ (.int .i64 x.p)).setCell ⟨mb, mo + 1, none⟩ (.int .i64 x.v)).setCell ⟨mb, mo + 2, none⟩ (.int .i64 x.u)) mb t pre post mo x l m := by
 refine ⟨h.len, ?_⟩
 have := ((h.blk.set_ (mo + 0) (.int .i64 x.p)).set_ (mo + 1) (.int .i64 x.v)).set_ (mo + 2) (.int .i64 x.u)
 rw [← h.len, set_mid _ _ _ _ _ (by simp [mCells]), set_mid _ _ _ _ _ (by simp [mCells]), set_mid _ _ _ _ _ (by simp [mCells])] at this
 rw [← h.len]
 exact this
theorem Met.set_last (h : Met w mb t pre post mo a l m) (x : Cnt) : Met (((w.setCell ⟨mb, mo + 3, none⟩ (.int .i64 x.p)).setCell ⟨mb, mo + 3 + 1, none⟩ (.int .i64 x.v)).setCell ⟨mb, mo + 3 + 2, none⟩ (.int .i64 x.u)) mb t pre post mo a x m := by
 refine ⟨h.len, ?_⟩
 have := ((h.blk.set_ (mo + 3) (.int .i64 x.p)).set_ (mo + 4) (.int .i64 x.v)).set_ (mo + 5) (.int .i64 x.u)
 rw [← h.len, set_mid _ _ _ _ _ (by simp [mCells]), set_mid _ _ _ _ _ (by simp [mCells]), set_mid _ _ _ _ _ (by simp [mCells])] at this
 rw [← h.len]
 exact this
end
def AddPost (w : World) (mb : Nat) (t : TypeId) (pre post : List Value) (mo : Nat) (a l : Cnt) (m : Int) (c : Cnt) (e : Ending) (w' : World) : Prop :=
 e = .returned undef ∧ Met w' mb t pre post mo (plusC a c) (plusC l c) m ∧ Mod [mb] w w'
theorem meter_add (mb : Nat) (t : TypeId) (pre post : List Value) (mo : Nat) (a l : Cnt) (m : Int) (c : Cnt) (w : World) (h : Met w mb t pre post mo a l m) :
  Calls Tryz.prog 109 #[.pointer (some ⟨mb, mo, none⟩), cntV c] w (AddPost w mb t pre post mo a l m c) := by
 have HP := qd (fun (x : Cnt) (V : World) => show Calls Tryz.prog 149 #[.agg #[.int .i64 x.p, .int .i64 x.v, .int .i64 x.u], .agg #[.int .i64 c.p, .int .i64 c.v, .int .i64 c.u]] V (fun e w' => e = .returned (.agg #[.int .i64 (plusC x c).p, .int .i64 (plusC x c).v, .int .i64 (plusC x c).u]) ∧ Below V.heap.size V w') from meter_Plus x c V)
 unfold cntV
 have hB0 := (Below.refl w.heap.size w).alloc (Nat.le_refl _) (.cells #[.int .i64 c.p, .int .i64 c.v, .int .i64 c.u] 77)
 have hM := h.below hB0
 have hC := Blk.new w 77 #[.int .i64 c.p, .int .i64 c.v, .int .i64 c.u]
 have hlt := h.lt
 obtain ⟨W, hW⟩ : ∃ W, W = w.alloc (.cells #[.int .i64 c.p, .int .i64 c.v, .int .i64 c.u] 77) := ⟨_, rfl⟩
 obtain ⟨p, hp⟩ : ∃ p, p = w.heap.size := ⟨_, rfl⟩
 rw [← hW] at hB0 hM hC
 rw [← hp] at hC
 have m0 : W.cell? ⟨mb, mo, none⟩ = some (.int .i64 a.p) := hM.at_ 0 (by omega)
 have m1 : W.cell? ⟨mb, mo + 1, none⟩ = some (.int .i64 a.v) := hM.at_ 1 (by omega)
 have m2 : W.cell? ⟨mb, mo + 2, none⟩ = some (.int .i64 a.u) := hM.at_ 2 (by omega)
 have m3 : W.cell? ⟨mb, mo + 3, none⟩ = some (.int .i64 l.p) := hM.at_ 3 (by omega)
 have m4 : W.cell? ⟨mb, mo + 3 + 1, none⟩ = some (.int .i64 l.v) := hM.at_ 4 (by omega)
 have m5 : W.cell? ⟨mb, mo + 3 + 2, none⟩ = some (.int .i64 l.u) := hM.at_ 5 (by omega)
 obtain ⟨c0, c1, c2⟩ := hC.c3
 have HW := qd (And.intro hp hW)
 have HB0 := qd hB0
 clear hW hp hC h hB0
 go_in
 go_upto_region 1 with fail
 rw [← HW.out.2, ← HW.out.1]
 refine region_T (fun w' => (w'.cell? ⟨mb, mo, none⟩ = some (.int .i64 a.p) ∧ w'.cell? ⟨mb, mo + 1, none⟩ = some (.int .i64 a.v) ∧ w'.cell? ⟨mb, mo + 2, none⟩ = some (.int .i64 a.u) ∧ w'.cell? ⟨mb, mo + 3, none⟩ = some (.int .i64 l.p) ∧ w'.cell? ⟨mb, mo + 3 + 1, none⟩ = some (.int .i64 l.v) ∧ w'.cell? ⟨mb, mo + 3 + 2, none⟩ = some (.int .i64 l.u) ∧ w'.cell? ⟨p, 0, none⟩ = some (.int .i64 c.p) ∧ w'.cell? ⟨p, 1, none⟩ = some (.int .i64 c.v) ∧ w'.cell? ⟨p, 2, none⟩ = some (.int .i64 c.u)) ∧ Below W.heap.size W w') [16, 19] (by kernel_rfl) ?_
 try (change wpAnyT _ _ _ _ _ _ _ _ _ (World.drew _))
 have hHeld : (fun w' => (w'.cell? ⟨mb, mo, none⟩ = some (.int .i64 a.p) ∧ w'.cell? ⟨mb, mo + 1, none⟩ = some (.int .i64 a.v) ∧ w'.cell? ⟨mb, mo + 2, none⟩ = some (.int .i64 a.u) ∧ w'.cell? ⟨mb, mo + 3, none⟩ = some (.int .i64 l.p) ∧ w'.cell? ⟨mb, mo + 3 + 1, none⟩ = some (.int .i64 l.v) ∧ w'.cell? ⟨mb, mo + 3 + 2, none⟩ = some (.int .i64 l.u) ∧ w'.cell? ⟨p, 0, none⟩ = some (.int .i64 c.p) ∧ w'.cell? ⟨p, 1, none⟩ = some (.int .i64 c.v) ∧ w'.cell? ⟨p, 2, none⟩ = some (.int .i64 c.u)) ∧ Below W.heap.size W w') (World.drew W) := ⟨⟨m0, m1, m2, m3, m4, m5, c0, c1, c2⟩, (Below.refl _ _).drew⟩
 refine vW 0 rfl ?_
 refine vW 1 rfl ?_
 refine vW 2 rfl ?_
 refine vW 3 rfl ?_
 refine vW 4 rfl ?_
 refine vT 5 rfl ?_
 refine vT 6 rfl ?_
 refine vW 8 rfl ?_
 refine vW 9 rfl ?_
 refine vW 10 rfl ?_
 refine vT 11 rfl ?_
 refine vT 12 rfl ?_
 refine nT 7 rfl fun K hK => ?_
 go_simp
 refine (HP.out a _).mono ?_
 rintro e w1 ⟨rfl, hb1⟩
 replace hb1 : Below W.heap.size W w1 := below_nx hb1 (Below.refl _ _).drew
 go_wp2_with fail
 have hHeld := show (fun w' => (w'.cell? ⟨mb, mo, none⟩ = some (.int .i64 a.p) ∧ w'.cell? ⟨mb, mo + 1, none⟩ = some (.int .i64 a.v) ∧ w'.cell? ⟨mb, mo + 2, none⟩ = some (.int .i64 a.u) ∧ w'.cell? ⟨mb, mo + 3, none⟩ = some (.int .i64 l.p) ∧ w'.cell? ⟨mb, mo + 3 + 1, none⟩ = some (.int .i64 l.v) ∧ w'.cell? ⟨mb, mo + 3 + 2, none⟩ = some (.int .i64 l.u) ∧ w'.cell? ⟨p, 0, none⟩ = some (.int .i64 c.p) ∧ w'.cell? ⟨p, 1, none⟩ = some (.int .i64 c.v) ∧ w'.cell? ⟨p, 2, none⟩ = some (.int .i64 c.u)) ∧ Below W.heap.size W w') _ from ⟨⟨cell_in hb1 m0, cell_in hb1 m1, cell_in hb1 m2, cell_in hb1 m3, cell_in hb1 m4, cell_in hb1 m5, cell_in hb1 c0, cell_in hb1 c1, cell_in hb1 c2⟩, hb1⟩
 refine kO hK ?_
 clear hK K
 refine nT 13 rfl fun K hK => ?_
 go_simp
 refine (HP.out l _).mono ?_
 rintro e w2 ⟨rfl, hb2⟩
 replace hb2 : Below W.heap.size W w2 := below_nx hb2 hb1
 have hM2 := hM.below hb2
 have fz := hM2.frz
 have n0 := cell_in hb2 m0
 have n1 := cell_in hb2 m1
 have n2 := cell_in hb2 m2
 have n3 := cell_in hb2 m3
 have n4 := cell_in hb2 m4
 have n5 := cell_in hb2 m5
 have g0 := fz mo
 have g1 := fz (mo + 1)
 have g2 := fz (mo + 2)
 have g3 := fz (mo + 3)
 have g4 := fz (mo + 3 + 1)
 have g5 := fz (mo + 3 + 2)
 clear fz
 go_wp2_with fail
 have hHeld := show (fun w' => (w'.cell? ⟨mb, mo, none⟩ = some (.int .i64 a.p) ∧ w'.cell? ⟨mb, mo + 1, none⟩ = some (.int .i64 a.v) ∧ w'.cell? ⟨mb, mo + 2, none⟩ = some (.int .i64 a.u) ∧ w'.cell? ⟨mb, mo + 3, none⟩ = some (.int .i64 l.p) ∧ w'.cell? ⟨mb, mo + 3 + 1, none⟩ = some (.int .i64 l.v) ∧ w'.cell? ⟨mb, mo + 3 + 2, none⟩ = some (.int .i64 l.u) ∧ w'.cell? ⟨p, 0, none⟩ = some (.int .i64 c.p) ∧ w'.cell? ⟨p, 1, none⟩ = some (.int .i64 c.v) ∧ w'.cell? ⟨p, 2, none⟩ = some (.int .i64 c.u)) ∧ Below W.heap.size W w') _ from ⟨⟨cell_in hb2 m0, cell_in hb2 m1, cell_in hb2 m2, cell_in hb2 m3, cell_in hb2 m4, cell_in hb2 m5, cell_in hb2 c0, cell_in hb2 c1, cell_in hb2 c2⟩, hb2⟩
 refine kO hK ?_
 clear hK K
 refine vW 14 rfl ?_
 refine vW 15 rfl ?_
 refine nT 16 rfl fun K hK => ?_
 go_simp
 refine kO hK ?_
 clear hK K
 refine vL 17 rfl ?_
 refine vL 18 rfl ?_
 refine nT 19 rfl fun K hK => ?_
 go_simp
 refine kO hK ?_
 clear hK K
 refine doneT (by kernel_rfl) ?_ _
 go_wp2
 go_end0
 exact ⟨rfl, (hM2.set_all _).set_last _, ((((((Mod.of_below (HB0.out.trans (hb2.mono HB0.out.size)) [mb]).set_ (.inl (by simp)) _ _).set_ (.inl (by simp)) _ _).set_ (.inl (by simp)) _ _).set_ (.inl (by simp)) _ _).set_ (.inl (by simp)) _ _).set_ (.inl (by simp)) _ _⟩
end
section
open Go.RowKit AmC
def lensV (p : Option Addr) (c : Cnt) : Value := .agg #[.pointer p, .int .i64 c.p, .int .i64 c.v, .int .i64 c.u]
set_option maxHeartbeats 400000 in
theorem meter_Probing (p : Option Addr) (w : World) : Calls Tryz.prog 34 #[.pointer p] w fun e w' => e = .returned (lensV p ⟨1, 0, 0⟩) ∧ Below w.heap.size w w' := by
 unfold lensV
 go_in
 go_wp2
 exact bodyPost_ret (v := .agg #[.pointer p, .int .i64 1, .int .i64 0, .int .i64 0]) (by simp [results, Tryz.results34, go_sem]) rfl ⟨rfl, (Below.refl _ _).alloc (Nat.le_refl _) _⟩
set_option maxHeartbeats 400000 in
theorem meter_Working (p : Option Addr) (w : World) : Calls Tryz.prog 217 #[.pointer p] w fun e w' => e = .returned (lensV p ⟨0, 1, 0⟩) ∧ Below w.heap.size w w' := by
 unfold lensV
 go_in
 go_wp2
 exact bodyPost_ret (v := .agg #[.pointer p, .int .i64 0, .int .i64 1, .int .i64 0]) (by simp [results, Tryz.results217, go_sem]) rfl ⟨rfl, (Below.refl _ _).alloc (Nat.le_refl _) _⟩
set_option maxHeartbeats 400000 in
theorem lens_Visit_nil (c : Cnt) (w : World) : Calls Tryz.prog 134 #[lensV none c] w fun e w' => e = .returned undef ∧ Below w.heap.size w w' := by
 unfold lensV
 go_in
 go_wp2
 go_end0
 exact ⟨rfl, (Below.refl _ _).alloc (Nat.le_refl _) _⟩
theorem AddPost.from {w w1 w' : World} {mb : Nat} {t : TypeId} {pre post : List Value} {mo : Nat} {a l : Cnt} {m : Int} {c : Cnt} {e : Ending} (h : AddPost w1 mb t pre post mo a l m c e w') (hb : Below w.heap.size w w1) : AddPost w mb t pre post mo a l m c e w' :=
 ⟨h.1, h.2.1, (Mod.of_below hb [mb]).then h.2.2⟩
set_option maxHeartbeats 400000 in
theorem lens_Visit (mb : Nat) (t : TypeId) (pre post : List Value) (mo : Nat) (a l : Cnt) (m : Int) (c : Cnt) (w : World) (h : Met w mb t pre post mo a l m) :
  Calls Tryz.prog 134 #[lensV (some ⟨mb, mo, none⟩) c] w (AddPost w mb t pre post mo a l m c) := by
 unfold lensV
 have hB := (Below.refl w.heap.size w).alloc (Nat.le_refl _) (.cells #[.pointer (some ⟨mb, mo, none⟩), .int .i64 c.p, .int .i64 c.v, .int .i64 c.u] 89)
 have HA := qd (show Calls Tryz.prog 109 #[.pointer (some ⟨mb, mo, none⟩), .agg #[.int .i64 c.p, .int .i64 c.v, .int .i64 c.u]] (w.alloc (.cells #[.pointer (some ⟨mb, mo, none⟩), .int .i64 c.p, .int .i64 c.v, .int .i64 c.u] 89)) _ from meter_add mb t pre post mo a l m c _ (h.below hB))
 have HB := qd hB
 clear h hB
 go_in
 go_wp2_with fail
 refine HA.out.mono ?_
 rintro e w1 ⟨rfl, hM, hm⟩
 go_wp2
 go_end0
 exact ⟨rfl, hM, (Mod.of_below HB.out [mb]).then hm⟩
set_option maxHeartbeats 400000 in
theorem meter_Reset (mb : Nat) (t : TypeId) (pre post : List Value) (mo : Nat) (a l : Cnt) (m : Int) (w : World) (h : Met w mb t pre post mo a l m) :
  Calls Tryz.prog 31 #[.pointer (some ⟨mb, mo, none⟩)] w fun e w' => e = .returned undef ∧ Met w' mb t pre post mo a ⟨0, 0, 0⟩ m ∧ Mod [mb] w w' := by
 have m3 : w.cell? ⟨mb, mo + 3, none⟩ = some (.int .i64 l.p) := h.at_ 3 (by omega)
 have m4 : w.cell? ⟨mb, mo + 3 + 1, none⟩ = some (.int .i64 l.v) := h.at_ 4 (by omega)
 have m5 : w.cell? ⟨mb, mo + 3 + 2, none⟩ = some (.int .i64 l.u) := h.at_ 5 (by omega)
 have g3 := h.frz (mo + 3)
 have g4 := h.frz (mo + 3 + 1)
 have g5 := h.frz (mo + 3 + 2)
 have HM := qd h
 clear h
 go_in
 go_wp2
 go_end0
 exact ⟨rfl, HM.out.set_last ⟨0, 0, 0⟩, (((Mod.refl [mb] w).set_ (.inl (by simp)) _ _).set_ (.inl (by simp)) _ _).set_ (.inl (by simp)) _ _⟩
set_option maxHeartbeats 1000000 in
theorem meter_Unit (mb : Nat) (t : TypeId) (pre post : List Value) (mo : Nat) (a l : Cnt) (m n : Int) (hn : 1 ≤ n) (w : World) (h : Met w mb t pre post mo a l m) :
  Calls Tryz.prog 68 #[.pointer (some ⟨mb, mo, none⟩), .int .i64 n] w (AddPost w mb t pre post mo a l m ⟨0, 0, n⟩) := by
 have m6 : w.cell? ⟨mb, mo + 6, none⟩ = some (.bool false) := h.at_ 6 (by omega)
 have hn' : ¬ n < 1 := by omega
 have hz := (Below.refl w.heap.size w).drew
 have HA := qd (show Calls Tryz.prog 109 #[.pointer (some ⟨mb, mo, none⟩), .agg #[.int .i64 0, .int .i64 0, .int .i64 n]] w.drew _ from meter_add mb t pre post mo a l m ⟨0, 0, n⟩ _ (h.below hz))
 clear h hn
 go_in
 go_wp2
 refine region_T (fun w' => w'.cell? ⟨mb, mo + 6, none⟩ = some (.bool false)) [] (by kernel_rfl) ?_
 try (change wpAnyT _ _ _ _ _ _ _ _ _ (World.drew _))
 have hHeld := m6
 refine vW 0 rfl ?_
 refine vW 1 rfl ?_
 refine vW 2 rfl ?_
 refine vT 3 rfl ?_
 refine vW 4 rfl ?_
 refine vU 5 rfl ?_
 refine vU 6 rfl ?_
 refine vU 7 rfl ?_
 refine vU 8 rfl ?_
 refine vU 9 rfl ?_
 refine vU 10 rfl ?_
 refine vU 11 rfl ?_
 refine vU 12 rfl ?_
 refine vU 13 rfl ?_
 refine vU 14 rfl ?_
 refine vU 15 rfl ?_
 refine vU 16 rfl ?_
 refine vW 17 rfl ?_
 refine doneT (by kernel_rfl) ?_ _
 go_wp2_with fail
 refine HA.out.mono ?_
 rintro e w1 ⟨rfl, hM, hm⟩
 go_wp2
 go_end0
 exact ⟨rfl, hM, (Mod.of_below hz [mb]).then hm⟩
def viewV (g : Addr) : Value := .agg #[.pointer (some g)]
set_option maxHeartbeats 400000 in
theorem group_Look_nil (g : Addr) (c : Cnt) (w : World) : Calls Tryz.prog 90 #[.pointer (some g), lensV none c] w fun e w' => e = .returned (viewV g) ∧ Below w.heap.size w w' := by
 have hB := ((Below.refl w.heap.size w).alloc (Nat.le_refl _) (.cells #[.pointer none, .int .i64 c.p, .int .i64 c.v, .int .i64 c.u] 89)).alloc (by simp) (.cells #[.pointer none] 138)
 have hD := Blk.new (w.alloc (.cells #[.pointer none, .int .i64 c.p, .int .i64 c.v, .int .i64 c.u] 89)) 138 #[.pointer none]
 rw [World.size_alloc] at hD
 obtain ⟨W, hW⟩ : ∃ W, W = (w.alloc (.cells #[.pointer none, .int .i64 c.p, .int .i64 c.v, .int .i64 c.u] 89)).alloc (.cells #[.pointer none] 138) := ⟨_, rfl⟩
 rw [← hW] at hB hD
 have HV := qd (lens_Visit_nil c W)
 unfold lensV at HV ⊢
 try unfold viewV
 have HW := qd hW
 clear hW
 go_in
 go_wp2_with fail
 rw [← HW.out]
 refine (HV.out).mono ?_
 rintro e w1 ⟨rfl, hb⟩
 have hD1 := hD.below hb hD.lt
 have d0 := hD1.cell 0
 have f0 := hD1.frozen 0
 simp only [List.getElem?_toArray, List.getElem?_cons_zero] at d0
 have hbw := hB.trans (hb.mono hB.size)
 go_wp2
 exact bodyPost_ret (v := .agg #[.pointer (some g)]) (by simp [results, Tryz.results90, go_sem, d0]) rfl ⟨rfl, hbw.setCell (p := ⟨w.heap.size + 1, 0, none⟩) (by simp) _⟩
def LookPost (w : World) (mb : Nat) (t : TypeId) (pre post : List Value) (mo : Nat) (a l : Cnt) (m : Int) (c : Cnt) (g : Addr) (e : Ending) (w' : World) : Prop :=
 e = .returned (viewV g) ∧ Met w' mb t pre post mo (plusC a c) (plusC l c) m ∧ Mod [mb] w w'
set_option maxHeartbeats 400000 in
theorem group_Look (g : Addr) (mb : Nat) (t : TypeId) (pre post : List Value) (mo : Nat) (a l : Cnt) (m : Int) (c : Cnt) (w : World) (h : Met w mb t pre post mo a l m) : Calls Tryz.prog 90 #[.pointer (some g), lensV (some ⟨mb, mo, none⟩) c] w (LookPost w mb t pre post mo a l m c g) := by
 have hB := ((Below.refl w.heap.size w).alloc (Nat.le_refl _) (.cells #[.pointer (some ⟨mb, mo, none⟩), .int .i64 c.p, .int .i64 c.v, .int .i64 c.u] 89)).alloc (by simp) (.cells #[.pointer none] 138)
 have hD := Blk.new (w.alloc (.cells #[.pointer (some ⟨mb, mo, none⟩), .int .i64 c.p, .int .i64 c.v, .int .i64 c.u] 89)) 138 #[.pointer none]
 rw [World.size_alloc] at hD
 obtain ⟨W, hW⟩ : ∃ W, W = (w.alloc (.cells #[.pointer (some ⟨mb, mo, none⟩), .int .i64 c.p, .int .i64 c.v, .int .i64 c.u] 89)).alloc (.cells #[.pointer none] 138) := ⟨_, rfl⟩
 rw [← hW] at hB hD
 have hlt := h.lt
 have HV := qd (lens_Visit mb t pre post mo a l m c W (h.below hB))
 clear h
 unfold lensV at HV ⊢
 try unfold viewV
 have HW := qd hW
 clear hW
 go_in
 go_wp2_with fail
 rw [← HW.out]
 refine (HV.out).mono ?_
 rintro e w1 ⟨rfl, hM, hm⟩
 have hne : w.heap.size + 1 ≠ mb := by omega
 have hD1 := hD.mod hm (by simpa using hne)
 have d0 := hD1.cell 0
 have f0 := hD1.frozen 0
 simp only [List.getElem?_toArray, List.getElem?_cons_zero] at d0
 have hbw := (Mod.of_below hB [mb]).then hm
 go_wp2
 exact bodyPost_ret (v := .agg #[.pointer (some g)]) (by simp [results, Tryz.results90, go_sem, d0]) rfl ⟨rfl, ⟨hM.len, hM.blk.far (p := ⟨w.heap.size + 1, 0, none⟩) (fun e => hne e.symm) _⟩, hbw.set_ (.inr (by simp)) _ _⟩
end
section
open Go.RowKit Go.Extern.Stop Go.Stop Go.Extern
variable {E : Nat → Addr} {w w' : World} {B j : Nat}
theorem isTypeOf (v : Value) (w : World) : (Extern.ReflectliteType.typeOf #[.iface 260 v]).run Tryz.prog w = .ok (.iface 204 (.agg #[.pointer (some ⟨17, 260, none⟩)])) w := by kernel_rfl
def cmpE : Array Value → Sem Value := Extern.ReflectliteType.method fun t => do Extern.Rtype.noPackHeld "Comparable" t; pure (.bool (← typeInfo t).comparable)
theorem isComparable (w : World) : (cmpE #[.agg #[.pointer (some ⟨17, 260, none⟩)]]).run Tryz.prog w = .ok (.bool true) w := by kernel_rfl
theorem isMethodComparable (v : Value) (w : World) : (Go.method 412 204 v "Comparable").run Tryz.prog w = .ok (234, v) w := by kernel_rfl
theorem isComp : (Tryz.prog.info? 260).map (·.comparable) = some true := by kernel_rfl
theorem isSize : (Tryz.prog.info? 300).map (·.size) = some 1 := by kernel_rfl
theorem noIsE (v : Value) (xT : TypeId) (w : World) : (Instr.typeAssert (.iface 260 v) xT 206 true).run Tryz.prog w = .ok (.tuple #[.nilIface, .bool false]) w := run_typeAssert_lacksB Tryz.underlying206 (by kernel_rfl) (by kernel_rfl) v xT w
theorem noUnwrapE (v : Value) (xT : TypeId) (w : World) : (Instr.typeAssert (.iface 260 v) xT 209 true).run Tryz.prog w = .ok (.tuple #[.nilIface, .bool false]) w := run_typeAssert_lacksB Tryz.underlying209 (by kernel_rfl) (by kernel_rfl) v xT w
theorem noUnwrapsE (v : Value) (xT : TypeId) (w : World) : (Instr.typeAssert (.iface 260 v) xT 210 true).run Tryz.prog w = .ok (.tuple #[.nilIface, .bool false]) w := run_typeAssert_lacksB Tryz.underlying210 (by kernel_rfl) (by kernel_rfl) v xT w
def errP (a : Addr) : Value := .iface 260 (.pointer (some a))
theorem is_same (a : Addr) (w : World) :
  Calls Tryz.prog 38 #[.iface 260 (.pointer (some a)), .iface 260 (.pointer (some a))] w fun e w' => e = .returned (.bool true) ∧ w = w' := by
 obtain ⟨i, hi, hcmp⟩ := Option.map_eq_some_iff.1 isComp
 obtain ⟨j, hj, hjs⟩ := Option.map_eq_some_iff.1 isSize
 have h8 := @run_callFunc_extern Tryz.prog 75 _ Extern.ReflectliteType.typeOf Tryz.func75 (by kernel_rfl) (by kernel_rfl) (by kernel_rfl) (by kernel_rfl)
 have h32 := @run_callFunc_extern Tryz.prog 234 _ cmpE Tryz.func234 (by kernel_rfl) (by kernel_rfl) (by kernel_rfl) (by kernel_rfl)
 have tT := isTypeOf
 have cT := isComparable
 have mR := isMethodComparable
 have heq := run_eql_iface_ptr_same (P := Tryz.prog) w a Tryz.underlying30 Tryz.underlying260 hi hcmp hj
 go_in
 go_wp2
 refine wp_loop_rounds 1 ?_
 rw [rounds_succ]
 go_wp2
 go_ret
 exact ⟨rfl, rfl⟩
theorem is_other (a b : Addr) (ca cb : Array Value) (ta tb : TypeId) (w : World) (hne : a ≠ b) (ha : w.heap[a.block]? = some (.cells ca ta (0, 0))) (hb : w.heap[b.block]? = some (.cells cb tb (0, 0))) :
  Calls Tryz.prog 38 #[.iface 260 (.pointer (some a)), .iface 260 (.pointer (some b))] w fun e w' => e = .returned (.bool false) ∧ w = w' := by
 obtain ⟨i, hi, hcmp⟩ := Option.map_eq_some_iff.1 isComp
 obtain ⟨j, hj, hjs⟩ := Option.map_eq_some_iff.1 isSize
 have h8 := @run_callFunc_extern Tryz.prog 75 _ Extern.ReflectliteType.typeOf Tryz.func75 (by kernel_rfl) (by kernel_rfl) (by kernel_rfl) (by kernel_rfl)
 have h32 := @run_callFunc_extern Tryz.prog 234 _ cmpE Tryz.func234 (by kernel_rfl) (by kernel_rfl) (by kernel_rfl) (by kernel_rfl)
 have tT := isTypeOf
 have cT := isComparable
 have mR := isMethodComparable
 have nE := noIsE
 have uE := noUnwrapE
 have vE := noUnwrapsE
 have heq := run_eql_iface_ptr_other (P := Tryz.prog) w Tryz.underlying30 Tryz.underlying260 hi hcmp hj (by rw [hjs]; decide) hne ha hb
 go_in
 go_wp2
 refine wp_loop_rounds 1 ?_
 rw [rounds_succ]
 go_wp2
 go_ret
 exact ⟨rfl, rfl⟩
def gE : Nat → Nat
 | 1 => 1 | 2 => 0 | 3 => 3 | 4 => 4 | 5 => 5 | 6 => 6 | 7 => 7 | 8 => 8
 | 9 => 9 | 10 => 2 | 11 => 10 | 12 => 11 | 13 => 12 | 14 => 13 | 15 => 14 | _ => 15
structure ErrsIn (E : Nat → Addr) (w : World) : Prop where
 cell : ∀ k, 1 ≤ k → k ≤ 16 → w.cell? ⟨gE k, 0, none⟩ = some (.iface 260 (.pointer (some (E k))))
 obj : ∀ k, 1 ≤ k → k ≤ 16 → ∃ c t, w.heap[(E k).block]? = some (.cells c t (0, 0))
 inj : ∀ j k, 1 ≤ j → j ≤ 16 → 1 ≤ k → k ≤ 16 → E j = E k → j = k
theorem ErrsIn.of_block (h : ErrsIn E w) (hb : ∀ k, k < w.heap.size → w'.heap[k]? = w.heap[k]?) : ErrsIn E w' := by
 refine ⟨fun k h1 h2 => ?_, fun k h1 h2 => ?_, h.inj⟩
 ·have hc := h.cell k h1 h2
  rw [World.cell?_of_block (w := w) (hb _ (World.block_lt_of_cell? w _ hc))]
  exact hc
 ·obtain ⟨c, t, ho⟩ := h.obj k h1 h2
  have : (E k).block < w.heap.size := (Array.getElem?_eq_some_iff.1 ho).1
  exact ⟨c, t, (hb _ this).trans ho⟩
theorem ErrsIn.below (h : ErrsIn E w) (hb : Below B w w') (hB : w.heap.size ≤ B) : ErrsIn E w' := h.of_block fun k hk => hb.block k (by omega)
theorem ErrsIn.alloc (h : ErrsIn E w) (o : Obj) : ErrsIn E (w.alloc o) := h.of_block fun k hk => Below.heap_alloc w o k hk
theorem ErrsIn.drew (h : ErrsIn E w) : ErrsIn E w.drew := h.of_block fun _ _ => rfl
theorem ErrsIn.drewN (h : ErrsIn E w) (n : Nat) : ErrsIn E (w.drewN n) := h.of_block fun _ _ => rfl
def ErrAt (E : Nat → Addr) (w : World) (k : Nat) : Prop := w.cell? ⟨gE k, 0, none⟩ = some (.iface 260 (.pointer (some (E k))))
theorem ErrAt.of_block (h : ErrAt E w j) (hb : ∀ k, k < w.heap.size → w'.heap[k]? = w.heap[k]?) : ErrAt E w' j :=
 (World.cell?_of_block (hb _ (World.block_lt_of_cell? w _ h))).trans h
theorem ErrAt.below (h : ErrAt E w j) (hb : Below B w w') (hB : w.heap.size ≤ B) : ErrAt E w' j := h.of_block fun k hk => hb.block k (by omega)
theorem ErrAt.alloc (h : ErrAt E w j) (o : Obj) : ErrAt E (w.alloc o) j := h.of_block fun k hk => Below.heap_alloc w o k hk
theorem ErrAt.drewN (h : ErrAt E w j) (n : Nat) : ErrAt E (w.drewN n) j := h.of_block fun _ _ => rfl
theorem ErrsIn.at_ (h : ErrsIn E w) (k : Nat) (h1 : 1 ≤ k) (h2 : k ≤ 16) : ErrAt E w k := h.cell k h1 h2
def errV (E : Nat → Addr) (k : Nat) : Value := if k = 0 then .nilIface else .iface 260 (.pointer (some (E k)))
theorem errV_pos (E : Nat → Addr) {k : Nat} (h : 1 ≤ k) : errV E k = .iface 260 (.pointer (some (E k))) := by unfold errV; rw [if_neg (by omega)]
theorem is_errs (h : ErrsIn E w) (j k : Nat) (h1 : 1 ≤ j) (h2 : j ≤ 16) (h3 : 1 ≤ k) (h4 : k ≤ 16) :
  Calls Tryz.prog 38 #[.iface 260 (.pointer (some (E j))), .iface 260 (.pointer (some (E k)))] w fun e w' => e = .returned (.bool (j == k)) ∧ w = w' := by
 by_cases hjk : j = k
 ·subst hjk
  exact (is_same (E j) w).mono fun e w' ⟨he, hw⟩ => ⟨by rw [he]; simp, hw⟩
 ·obtain ⟨c, t, ho⟩ := h.obj j h1 h2
  obtain ⟨c', t', ho'⟩ := h.obj k h3 h4
  exact (is_other (E j) (E k) c c' t t' w (fun e => hjk (h.inj j k h1 h2 h3 h4 e)) ho ho').mono fun e w' ⟨he, hw⟩ => ⟨by rw [he]; simp [hjk], hw⟩
def allCells (E : Nat → Addr) : List Value := (List.range 16).map fun i => .iface 260 (.pointer (some (E (i + 1))))
set_option maxHeartbeats 400000 in
theorem num_all (h : ErrsIn E w) :
  Calls Tryz.prog 47 #[] w fun e w' => e = .returned (.slice (some ⟨w.heap.size, 0, none⟩) 16 16) ∧ w.alloc (.cells (allCells E).toArray 30) = w' := by
 have h1 := h.cell 1 (by omega) (by omega)
 have h2 := h.cell 2 (by omega) (by omega)
 have h3 := h.cell 3 (by omega) (by omega)
 have h4 := h.cell 4 (by omega) (by omega)
 have h5 := h.cell 5 (by omega) (by omega)
 have h6 := h.cell 6 (by omega) (by omega)
 have h7 := h.cell 7 (by omega) (by omega)
 have h8 := h.cell 8 (by omega) (by omega)
 have h9 := h.cell 9 (by omega) (by omega)
 have h10 := h.cell 10 (by omega) (by omega)
 have h11 := h.cell 11 (by omega) (by omega)
 have h12 := h.cell 12 (by omega) (by omega)
 have h13 := h.cell 13 (by omega) (by omega)
 have h14 := h.cell 14 (by omega) (by omega)
 have h15 := h.cell 15 (by omega) (by omega)
 have h16 := h.cell 16 (by omega) (by omega)
 simp only [gE] at h1 h2 h3 h4 h5 h6 h7 h8 h9 h10 h11 h12 h13 h14 h15 h16
 go_in
 go_wp2
 go_ret
 exact ⟨rfl, rfl⟩
set_option maxHeartbeats 400000 in
theorem num_nil (w : World) : Calls Tryz.prog 22 #[.nilIface] w fun e w' => e = .returned (.int .i64 0) ∧ w = w' := by
 go_in
 go_wp2
 go_ret
 exact ⟨rfl, rfl⟩
end
end Go.Proofs.YtcgjgfgkdoohlaaGreatDoor
