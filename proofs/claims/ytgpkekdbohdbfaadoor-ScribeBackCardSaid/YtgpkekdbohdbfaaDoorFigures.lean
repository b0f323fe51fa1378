/- amblernum.Figures of a number that is not below nought, by its contract. -/
import Derived.Test.YtgpkekdbohdbfaaDoorDecU
namespace Go.Proofs.YtgpkekdbohdbfaaDoor
open Go.RowKit AmD

set_option maxHeartbeats 1000000 in
theorem num_Figures (n : Nat) (hn : n < 9223372036854775808) (w : World) : Calls Tryd.prog 39 #[.int .i64 (n : Int)] w fun e w' => ∃ b, Says (digits n) b ∧ e = .returned (.string b) ∧ Below w.heap.size w w' := by
  have HU := Lib.hid (fun (W : World) => num_unsigned n W (by omega))
  have h0 : ¬ (n : Int) < 0 := by omega
  go_enter Tryd.func39, Tryd.ntmps39
  go_wp2_with fail
  refine (HU.out _).mono ?_
  rintro e w1 ⟨b, hb, rfl, hb1⟩
  go_wp2
  go_ret
  exact ⟨b, hb, rfl, hb1⟩
end Go.Proofs.YtgpkekdbohdbfaaDoor
