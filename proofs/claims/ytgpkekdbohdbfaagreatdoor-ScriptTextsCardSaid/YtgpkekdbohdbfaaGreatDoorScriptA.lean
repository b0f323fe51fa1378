/- Small functions of package script by their contracts. -/
import Derived.Test.YtgpkekdbohdbfaaGreatDoorProg
import Derived.Test.YtgpkekdbohdbfaaGreatDoorKit
import Derived.Test.YtgpkekdbohdbfaaGreatDoorScriptP
import Derived.Test.YtgpkekdbohdbfaaGreatDoorOps
import Derived.WalkKit
import Derived.WalkSpells
import Derived.WalkLawsBesides
import Derived.KernelRfl
import Derived.Outline
import Derived.BigQuiet
import Derived.Deep.QuietTactic
namespace Go.Proofs.YtgpkekdbohdbfaaGreatDoor
open Go.RowKit AmS

theorem script_is (k : Int) (w : World) : Calls Tryz.prog 19 #[.int .i64 k] w fun e w' => e = .returned (.bool (isKind k)) ∧ w = w' := by
  by_cases h1 : 1 ≤ k
  · by_cases h2 : k ≤ 8
    all_goals
      go_enter Tryz.func19, Tryz.ntmps19
      go_wp2
      go_ret
      exact ⟨ret_bool (by simp [isKind]; omega), rfl⟩
  · go_enter Tryz.func19, Tryz.ntmps19
    go_wp2
    go_ret
    exact ⟨ret_bool (by simp [isKind]; omega), rfl⟩
theorem script_keyed (k : Int) (w : World) : Calls Tryz.prog 20 #[.int .i64 k] w fun e w' => e = .returned (.bool (keyedP k)) ∧ w = w' := by
  by_cases h1 : k = 1
  · subst h1
    go_enter Tryz.func20, Tryz.ntmps20
    go_wp2
    go_ret
    exact ⟨rfl, rfl⟩
  · have b1 : (k == 1) = false := by simp [h1]
    by_cases h2 : k = 2
    · subst h2
      go_enter Tryz.func20, Tryz.ntmps20
      go_wp2
      go_ret
      exact ⟨rfl, rfl⟩
    · have b2 : (k == 2) = false := by simp [h2]
      go_enter Tryz.func20, Tryz.ntmps20
      go_wp2
      go_ret
      exact ⟨ret_bool (by simp [keyedP, b1, b2]), rfl⟩
theorem script_iterated (k : Int) (w : World) : Calls Tryz.prog 21 #[.int .i64 k] w fun e w' => e = .returned (.bool (iterK k)) ∧ w = w' := by
  by_cases h1 : k = 7
  · subst h1
    go_enter Tryz.func21, Tryz.ntmps21
    go_wp2
    go_ret
    exact ⟨rfl, rfl⟩
  · have b1 : (k == 7) = false := by simp [h1]
    go_enter Tryz.func21, Tryz.ntmps21
    go_wp2
    go_ret
    exact ⟨ret_bool (by simp [iterK, b1]), rfl⟩
set_option maxHeartbeats 2000000 in
theorem script_Right (o : SOp) (w : World) : Calls Tryz.prog 9 #[opV o] w fun e w' => e = .returned (.bool (rightB o)) ∧ w.alloc (opBlk o) = w' := by
  unfold opV opBlk
  go_enter Tryz.func9, Tryz.ntmps9
  go_wp2_with (first
    | (go_at_call 19; refine (script_is _ _).mono ?_; rintro e w1 ⟨rfl, rfl⟩)
    | (go_at_call 20; refine (script_keyed _ _).mono ?_; rintro e w1 ⟨rfl, rfl⟩)
    | (go_at_call 21; refine (script_iterated _ _).mono ?_; rintro e w1 ⟨rfl, rfl⟩))
  all_goals
    go_ret
    refine ⟨ret_bool ?_, ?_⟩
    · first | (simp_all [rightB, iterK]; done) | (simp_all [rightB, iterK]; omega)
    · first | rfl | simp [*]
end Go.Proofs.YtgpkekdbohdbfaaGreatDoor
