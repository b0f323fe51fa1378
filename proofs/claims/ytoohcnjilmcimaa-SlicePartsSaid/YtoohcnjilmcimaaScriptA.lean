/- Small functions of package script by their contracts. -/
import Derived.Test.YtoohcnjilmcimaaProg
import Derived.Test.YtoohcnjilmcimaaKit
import Derived.Test.YtoohcnjilmcimaaScriptP
import Derived.Test.YtoohcnjilmcimaaOps
import Derived.WalkKit
import Derived.WalkSpells
import Derived.WalkLawsBesides
import Derived.KernelRfl
import Derived.Outline
import Derived.BigQuiet
import Derived.Deep.QuietTactic
namespace Go.Proofs.Ytoohcnjilmcimaa
open Go.RowKit AmS

theorem script_keyed (k : Int) (w : World) : Calls Try.prog 35 #[.int .i64 k] w fun e w' => e = .returned (.bool (keyedP k)) ∧ w = w' := by
  by_cases h1 : k = 1
  · subst h1
    go_enter Try.func35, Try.ntmps35
    go_wp2
    go_ret
    exact ⟨rfl, rfl⟩
  · have b1 : (k == 1) = false := by simp [h1]
    by_cases h2 : k = 2
    · subst h2
      go_enter Try.func35, Try.ntmps35
      go_wp2
      go_ret
      exact ⟨rfl, rfl⟩
    · have b2 : (k == 2) = false := by simp [h2]
      go_enter Try.func35, Try.ntmps35
      go_wp2
      go_ret
      exact ⟨ret_bool (by simp [keyedP, b1, b2]), rfl⟩
end Go.Proofs.Ytoohcnjilmcimaa
