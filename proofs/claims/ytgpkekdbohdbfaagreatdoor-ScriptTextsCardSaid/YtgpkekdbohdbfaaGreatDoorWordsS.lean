/- words.fine and words.Split by their contracts: line by line, as goSplit. -/
import Derived.Test.YtgpkekdbohdbfaaGreatDoorTexts
import Derived.Test.YtgpkekdbohdbfaaGreatDoorWordsP
import Derived.Test.YtgpkekdbohdbfaaGreatDoorErrs
import Derived.Test.YtgpkekdbohdbfaaGreatDoorShelf
import Derived.Lib.SplitLaws
import Derived.WalkKit
import Derived.WalkSpells
import Derived.WalkLawsBesides
import Derived.Outline
namespace Go.Proofs.YtgpkekdbohdbfaaGreatDoor
open Go.RowKit AmW

theorem fineB_take (l : Bytes) (k : Nat) (h : k < l.length) : fineB (l.take (k + 1)) = (fineB (l.take k) && fineC l[k]) := by
  unfold fineB
  rw [List.take_succ_eq_append_getElem h, List.all_append]
  simp
theorem fineC_iff (b : UInt8) : fineC b = true ↔ ¬ ((b.toNat : Int) < 32) ∧ ¬ (126 : Int) < (b.toNat : Int) := by
  unfold fineC
  have e1 : (32 : UInt8).toNat = 32 := rfl
  have e2 : (126 : UInt8).toNat = 126 := rfl
  simp only [Bool.and_eq_true, decide_eq_true_eq, UInt8.le_iff_toNat_le]
  omega

set_option maxHeartbeats 400000 in
set_option maxRecDepth 100000 in
theorem words_fine (s : ByteArray) (w : World) (hs : s.size ≤ 70000) :
    Calls Tryz.prog 24 #[.string s] w fun e w' => e = .returned (.bool (fineB s.data.toList)) ∧ Below w.heap.size w w' := by
  have hlen : s.data.toList.length = s.size := by simp
  obtain ⟨c, W, hconv, hB, hlt, hcell⟩ := conv_bytes (P := Tryz.prog) w 9 81 5 s Tryz.underlying9 Tryz.underlying81 Tryz.underlying5
  have HC := Lib.hid hcell
  clear hcell
  go_enter Tryz.func24, Tryz.ntmps24
  go_wp2
  go_loop [4, 8] (fun _ i => ∃ k : Nat, k ≤ s.size ∧ i = .int .i64 k ∧ fineB (s.data.toList.take k) = true) (fun _ i => s.size - (intOf i).toNat)
  case atStart => exact ⟨0, by omega, rfl, rfl⟩
  case round =>
    obtain ⟨k, hk, rfl, hf⟩ := hrel
    by_cases hkl : k < s.size
    · have hc := HC.out k hkl
      have ht := fineB_take s.data.toList k (by omega)
      have hg : s.data.toList[k]'(by omega) = s[k] := rfl
      rw [hf, Bool.true_and, hg] at ht
      have Ht := Lib.hid ht
      have Hf := Lib.hid hf
      clear ht hf hg
      cases hfc : fineC s[k] with
      | true =>
        have hfb := (fineC_iff _).1 hfc
        have b1 := hfb.1
        have b2 := hfb.2
        have Hfc := Lib.hid hfc
        clear hfc hfb
        go_wp2
        go_round
        case rel => exact ⟨k + 1, by omega, by go_num, by rw [Ht.out]; exact Hfc.out⟩
        case measure => simp [intOf]; omega
      | false =>
        have hres : fineB s.data.toList = false := by
          have h2 : fineB (s.data.toList.take (k + 1)) = false := by rw [Ht.out]; exact hfc
          unfold fineB at h2 ⊢
          rw [List.all_eq_false] at h2 ⊢
          obtain ⟨x, hx, hx2⟩ := h2
          exact ⟨x, List.mem_of_mem_take hx, hx2⟩
        have hn : ((s[k]).toNat : Int) < 32 ∨ (126 : Int) < ((s[k]).toNat : Int) := by
          by_cases h : ((s[k]).toNat : Int) < 32
          · exact .inl h
          · refine .inr (Int.lt_of_not_ge fun h2 => ?_)
            have := (fineC_iff s[k]).2 ⟨by omega, by omega⟩
            rw [this] at hfc; cases hfc
        have Hres := Lib.hid hres
        clear hres hfc
        rcases hn with hn | hn
        · go_wp2
          go_ret
          exact ⟨ret_bool Hres.out.symm, hB⟩
        · have hn' : ¬ ((s[k]).toNat : Int) < 32 := by omega
          go_wp2
          go_ret
          exact ⟨ret_bool Hres.out.symm, hB⟩
    · have hfl : fineB s.data.toList = true := by rwa [List.take_of_length_le (by omega)] at hf
      have Hfl := Lib.hid hfl
      clear hfl hf
      go_wp2
      go_ret
      exact ⟨ret_bool Hfl.out.symm, hB⟩
end Go.Proofs.YtgpkekdbohdbfaaGreatDoor
