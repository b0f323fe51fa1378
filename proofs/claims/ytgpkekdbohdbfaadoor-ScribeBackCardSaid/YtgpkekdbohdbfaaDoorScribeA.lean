/- amblerref32.Right by its contract. -/
import Derived.Test.YtgpkekdbohdbfaaDoorScriptI
import Derived.Test.YtgpkekdbohdbfaaDoorFigures
namespace Go.Proofs.YtgpkekdbohdbfaaDoor
open Go.RowKit AmS AmD

theorem rightB_false1 {o : SOp} (h : o.kind < 1 ∨ 8 < o.kind ∨ o.iter < 0 ∨ 1000000 < o.iter ∨ (o.kind < 7 ∧ o.iter ≠ 0)) : rightB o = false := by
  rw [← Bool.not_eq_true]
  intro e
  unfold rightB isKind iterK at e
  simp at e
  omega
theorem rightB_eq2 {o : SOp} (h1 : 1 ≤ o.kind) (h8 : o.kind ≤ 8) (h0 : 0 ≤ o.iter) (hm : o.iter ≤ 1000000) (h7 : 7 ≤ o.kind ∨ o.iter = 0) (b : Bool) (hb : b = ((decide (o.kind < 4) || (o.key == 0 && o.hash == 0)) && (o.kind == 2 || o.val == 0))) : b = rightB o := by
  have hk : keyedP o.kind = decide (o.kind < 4) := by rw [← keyed_eq]; unfold keyedR; simp; omega
  have hi : (iterK o.kind || o.iter == 0) = true := by
    unfold iterK
    simp
    omega
  have hik : isKind o.kind = true := by unfold isKind; simp; omega
  unfold rightB
  rw [hb, hik, hk, hi]
  simp [h0, hm]

theorem ret_bool' {X R : Bool} (h : X = R) : Ending.returned (Value.bool X) = Ending.returned (Value.bool R) := by rw [h]
set_option maxHeartbeats 2000000 in
theorem ref32_Right (o : SOp) (w : World) : Calls Tryd.prog 36 #[opV o] w fun e w' => e = .returned (.bool (rightB o)) ∧ w.alloc (.cells #[.int .i64 o.kind, .int .u64 o.key, .int .u64 o.val, .int .u64 o.hash, .int .i64 o.iter] 28) = w' := by
  unfold opV
  obtain ⟨R, hR⟩ : ∃ R, rightB o = R := ⟨_, rfl⟩
  have HR := Lib.hid hR
  rw [hR]
  clear hR
  have hI : ∃ z : Bool, (o.iter != 0) = z ∧ (z = true ↔ ¬ o.iter = 0) := ⟨_, rfl, by simp⟩
  obtain ⟨z, hz, hzi⟩ := hI
  have HI := Lib.hid hzi
  clear hzi
  cases z
  all_goals
    go_enter Tryd.func36, Tryd.ntmps36
    go_wp2
    all_goals
      go_ret
      have hq := HI.out
      simp only [true_iff, false_iff, Bool.false_eq_true, Decidable.not_not] at hq
      refine ⟨?_, by simp [*]⟩
      rw [← HR.out]
      refine ret_bool' ?_
      first
        | exact (rightB_false1 (by omega)).symm
        | (refine rightB_eq2 (by omega) (by omega) (by omega) (by omega) (by omega) _ ?_; simp [*]; done)
        | (refine rightB_eq2 (by omega) (by omega) (by omega) (by omega) (by omega) _ ?_; rw [Bool.eq_iff_iff]; simp; omega)
end Go.Proofs.YtgpkekdbohdbfaaDoor
