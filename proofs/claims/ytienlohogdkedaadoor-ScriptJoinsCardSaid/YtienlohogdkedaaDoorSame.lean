/- amblernum.SameTexts of two rows that read alike. -/
import Derived.Test.YtienlohogdkedaaDoorTexts
import Derived.WalkKit
import Derived.WalkSpells
import Derived.WalkLawsBesides
import Derived.Outline
namespace Go.Proofs.YtienlohogdkedaaDoor
open Go.RowKit

set_option maxHeartbeats 400000 in
theorem same_texts (A B : Option Addr) (n c d : Nat) (xs : List Bts) (w : World) (hA : Reads w w.heap.size 1 A n (xs.map strV)) (hB : Reads w w.heap.size 1 B n (xs.map strV)) (hn : n ≤ 1000000) :
    Calls Tryd.prog 38 #[.slice A n c, .slice B n d] w fun e w' => e = .returned (.bool true) ∧ w = w' := by
  have hl : xs.length = n := by simpa using hA.1
  go_enter Tryd.func38, Tryd.ntmps38
  go_wp2
  go_loop [5, 6, 14] (fun _ _ i => ∃ k : Nat, k ≤ n ∧ i = .int .i64 k) (fun _ _ i => n - (intOf i).toNat)
  case atStart => exact ⟨0, by omega, rfl⟩
  case round =>
    obtain ⟨k, hk, rfl⟩ := hrel
    by_cases hlt : k < n
    · obtain ⟨b, off, rfl, hb, hc⟩ := hA.cells_ (by omega)
      obtain ⟨b', off', rfl, hb', hc'⟩ := hB.cells_ (by omega)
      have hx : (xs.map strV)[k]? = some (.string ⟨(xs[k]'(by omega)).toArray⟩) := by simp [hl, hlt, strV]
      have h1 := hc k _ hx
      have h2 := hc' k _ hx
      generalize (⟨(xs[k]'(by omega)).toArray⟩ : ByteArray) = s at h1 h2
      clear hc hc' hx
      go_wp2
      go_round
      case rel => exact ⟨k + 1, by omega, by go_num⟩
      case measure => simp [intOf]; omega
    · go_wp2
      go_ret
      exact ⟨rfl, rfl⟩
end Go.Proofs.YtienlohogdkedaaDoor
