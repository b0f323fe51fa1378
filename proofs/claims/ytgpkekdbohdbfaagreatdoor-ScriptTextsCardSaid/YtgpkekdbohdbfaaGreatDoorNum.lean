/- The number of an error of package api (amblernum.Num). -/
import Derived.Test.YtgpkekdbohdbfaaGreatDoorErrs
namespace Go.Proofs.YtgpkekdbohdbfaaGreatDoor
open Go.RowKit

theorem allCells_get (E : Nat → Addr) (k : Nat) (h : k < 16) : (allCells E)[k]? = some (.iface 145 (.pointer (some (E (k + 1))))) := by
  unfold allCells
  rw [List.getElem?_map, List.getElem?_range h]
  rfl

set_option maxHeartbeats 400000 in
theorem num_err {E : Nat → Addr} {w : World} (h : ErrsIn E w) (j : Nat) (h1 : 1 ≤ j) (h2 : j ≤ 16) :
    Calls Tryz.prog 7 #[.iface 145 (.pointer (some (E j)))] w fun e w' => e = .returned (.int .i64 j) ∧ Below w.heap.size w w' := by
  have hS := h.alloc (.cells (allCells E).toArray 25)
  have hcells := Blk.new w 25 (allCells E).toArray
  have hB : Below w.heap.size w (w.alloc (.cells (allCells E).toArray 25)) := (Below.refl _ _).alloc (Nat.le_refl _) _
  go_enter Tryz.func7, Tryz.ntmps7
  go_wp2_with (go_at_call 17; refine (num_all h).mono ?_; rintro e w1 ⟨rfl, rfl⟩)
  obtain ⟨W, hW⟩ : ∃ W, W = w.alloc (.cells (allCells E).toArray 25) := ⟨_, rfl⟩
  rw [← hW] at hS hcells hB ⊢
  clear hW
  go_loop [3, 4, 9] (fun _ _ i => ∃ k : Nat, k < j ∧ i = .int .i64 k) (fun _ _ i => 16 - (intOf i).toNat)
  case atStart => exact ⟨0, by omega, rfl⟩
  case round =>
    obtain ⟨k, hk, rfl⟩ := hrel
    have hc : W.cell? ⟨w.heap.size, k, none⟩ = some (.iface 145 (.pointer (some (E (k + 1))))) := by rw [hcells.cell k, List.getElem?_toArray]; exact allCells_get E k (by omega)
    have hi := is_errs hS j (k + 1) h1 h2 (by omega) (by omega)
    by_cases hjk : j = k + 1
    · have hb : (j == k + 1) = true := by simp [hjk]
      rw [hb] at hi
      have Hjk := Lib.hid hjk
      clear hjk hb
      go_wp2_with (go_at_call 18; refine hi.mono ?_; rintro e w1 ⟨rfl, rfl⟩)
      go_ret
      exact ⟨ret_int (by have := Hjk.out; omega), hB⟩
    · have hb : (j == k + 1) = false := by simp [hjk]
      rw [hb] at hi
      clear hb
      go_wp2_with (go_at_call 18; refine hi.mono ?_; rintro e w1 ⟨rfl, rfl⟩)
      go_round
      case rel => exact ⟨k + 1, by omega, by go_num⟩
      case measure => simp [intOf]; omega

/-- the number of an error, 0 of nil -/
theorem num_any {E : Nat → Addr} {w : World} (h : ErrsIn E w) (j : Nat) (h2 : j ≤ 16) :
    Calls Tryz.prog 7 #[errV E j] w fun e w' => e = .returned (.int .i64 j) ∧ Below w.heap.size w w' := by
  by_cases h0 : j = 0
  · subst h0
    exact (num_nil w).mono fun e w' ⟨he, hw⟩ => ⟨he, hw ▸ Below.refl _ _⟩
  · rw [errV_pos E (by omega)]
    exact num_err h j (by omega) h2

end Go.Proofs.YtgpkekdbohdbfaaGreatDoor
