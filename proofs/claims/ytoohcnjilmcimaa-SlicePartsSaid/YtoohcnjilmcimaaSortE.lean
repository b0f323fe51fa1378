/- The sort of the library at uint64: partialInsertionSortOrdered by its contract, in the words of the library's plain sort. The two shifts are walked each behind a cut. -/
import Derived.Test.YtoohcnjilmcimaaSortB
import Derived.Sort.WalkA6
import Derived.Deep.CutRange
namespace Go.Proofs.Ytoohcnjilmcimaa
open Go.RowKit Go.Sort

set_option maxHeartbeats 4000000 in
set_option maxRecDepth 100000 in
theorem partial_u64 (blk off cap a b : Nat) (d : Array Int) (w : World) (hH : Holds (Value.int .u64) w blk off d) (hblk : blk < w.heap.size) (hab : a < b) (hb : b ≤ d.size) (hsz : d.size < 4611686018427387904) :
    Calls Try.prog 46 #[.slice (some ⟨blk, off, none⟩) d.size cap, .int .i64 a, .int .i64 b] w fun e w' =>
      e = .returned (.bool (partialInsertionSort ltInt d a b).2) ∧ RowNow w blk off d (partialInsertionSort ltInt d a b).1 w' := by
  have HH := Lib.hid hH
  have HS := Lib.hid (RowNow.start hH)
  clear hH
  obtain ⟨R, hR⟩ : ∃ R, partialInsertionSort ltInt d a b = R := ⟨_, rfl⟩
  rw [hR]
  have HQ := Lib.hid (show partialIns ltInt a b (5 - 0) (a + 1) d = R from hR)
  clear hR
  go_enter Try.func46, Try.ntmps46
  go_wp2
  go_loopw [7, 8, 9, 10] (fun vi vs _ _ wr => ∃ (i s : Nat) (dk : Array Int), vi = .int .i64 i ∧ vs = .int .i64 s ∧ s ≤ 5 ∧ a < i ∧ i ≤ b ∧ Hid (RowNow w blk off d dk wr) ∧ Hid (partialIns ltInt a b (5 - s) i dk = R)) (fun _ vs _ _ _ => 5 - (intOf vs).toNat)
  case atStart => exact ⟨a + 1, 0, d, by go_num, rfl, by omega, by omega, by omega, HS, HQ⟩
  case round =>
    obtain ⟨i, s, dk, rfl, rfl, hs5, hai, hib, HR, HO⟩ := hrel
    by_cases hs : s < 5
    · have hs' : (s : Int) < 5 := by omega
      obtain ⟨wo, hwo⟩ : ∃ wo : World, wo = wr := ⟨_, rfl⟩
      rw [← hwo] at HR
      obtain ⟨G, hG⟩ : ∃ G : Nat → Int, ∀ t, G t = dk[t]! := ⟨fun t => dk[t]!, fun _ => rfl⟩
      have HG := Lib.hid hG
      have HS0 := Lib.hid (show RowNow w blk off d dk wr from hwo ▸ HR.out)
      clear hG hwo
      go_wp2
      go_loopw [7] (fun vi wx => ∃ k : Nat, vi = .int .i64 k ∧ i ≤ k ∧ k ≤ b ∧ Hid (RowNow w blk off d dk wx) ∧ Hid (scanSorted ltInt dk b k = scanSorted ltInt dk b i)) (fun vi _ => b - (intOf vi).toNat)
      case atStart => exact ⟨i, rfl, Nat.le_refl _, hib, HS0, Lib.hid rfl⟩
      case round =>
        obtain ⟨k, rfl, hik, hkb, HK, HC⟩ := hrel
        have hcw : ∀ t, t < d.size → wr.cell? ⟨blk, off + t, none⟩ = some (.int .u64 (G t)) := fun t ht => by rw [HG.out]; exact HK.out.cell hblk HH.out ht
        have hfw : ∀ t, t < d.size → wr.frozen? ⟨blk, off + t, none⟩ = false := fun t ht => HK.out.frozen hblk HH.out ht
        by_cases hk : k < b
        · have hk' : (k : Int) < (b : Int) := by omega
          cases hl : ltInt (G k) (G (k - 1)) with
          | false =>
            have HN := Lib.hid (show scanSorted ltInt dk b (k + 1) = scanSorted ltInt dk b i from by rw [← HC.out, scanSorted_go ltInt dk b k hk (by rw [← HG.out, ← HG.out]; exact hl)])
            go_wp2_with fail
            go_quiet (first | (go_at_call 47; refine Calls.quiet_of_same (less_u64 _ _ _)))
            go_wp2
            go_roundw
            case rel => exact ⟨k + 1, by go_num, by omega, by omega, Lib.hid (HK.out.drewN nq), HN⟩
            case measure => simp [intOf]; omega
          | true =>
            have HSC := Lib.hid (show scanSorted ltInt dk b i = k from by rw [← HC.out, scanSorted_stop ltInt dk b k (Or.inr (by rw [← HG.out, ← HG.out]; exact hl))])
            go_wp2_with fail
            go_quiet (first | (go_at_call 47; refine Calls.quiet_of_same (less_u64 _ _ _)))
            have hkne : ((k : Int) == (b : Int)) = false := by rw [beq_eq_false_iff_ne]; omega
            by_cases h50 : b - a < 50
            · have h50' : (b : Int) - (a : Int) < 50 := by omega
              have HE := Lib.hid (show R = (dk, false) from by rw [← HO.out, pi_short ltInt a b s i dk hs (by rw [HSC.out]; omega) h50])
              go_wp2
              go_ret
              exact ⟨by rw [HE.out]; rfl, by rw [HE.out]; exact HK.out.drewN nq⟩
            · have h50' : ¬ (b : Int) - (a : Int) < 50 := by omega
              go_wp2_with fail
              have HKq := Lib.hid (HK.out.drewN nq)
              have hcw3 : ∀ t, t < d.size → (wr.drewN nq).cell? ⟨blk, off + t, none⟩ = some (.int .u64 (G t)) := hcw
              have hfw3 : ∀ t, t < d.size → (wr.drewN nq).frozen? ⟨blk, off + t, none⟩ = false := hfw
              clear hcw hfw HK
              generalize wr.drewN nq = wr3 at hcw3 hfw3 HKq ⊢
              go_region
              have HW := Lib.hid (HKq.out.swap1 hblk (j := k) (k := k - 1) (by omega) (by omega) (HG.out _) (HG.out _))
              clear hcw3 hfw3
              obtain ⟨W4, hW4⟩ : ∃ W4 : World, W4 = (((wr3.setCell ⟨blk, off + k, none⟩ (.int .u64 (G (k - 1)))).setCell ⟨blk, off + (k - 1), none⟩ (.int .u64 (G k))).drew) := ⟨_, rfl⟩
              rw [← hW4] at HW ⊢
              clear hW4
              obtain ⟨d2, hd2⟩ : ∃ d2, d2 = swp dk k (k - 1) := ⟨_, rfl⟩
              have HD2 := Lib.hid hd2
              rw [← hd2] at HW
              clear hd2
              go_upto_if 61 with fail
              go_cut [9] from 13 to 132 (fun _ wx => ∃ d3, Hid (RowNow w blk off d d3 wx) ∧ Hid (fixDown ltInt a k d2 = d3))
              case first =>
                by_cases hka : k - a ≥ 2
                · have hka' : (2 : Int) ≤ (k : Int) - (a : Int) := by omega
                  go_wp2
                  go_loopw [9] (fun vj wx => ∃ (j : Nat) (dj : Array Int), vj = .int .i64 j ∧ j ≤ k - 1 ∧ Hid (RowNow w blk off d dj wx) ∧ Hid (shiftDown ltInt j dj = shiftDown ltInt (k - 1) d2)) (fun vj _ => (intOf vj).toNat)
                  case atStart => exact ⟨k - 1, d2, by congr 1; omega, Nat.le_refl _, HW, Lib.hid rfl⟩
                  case round =>
                    obtain ⟨j, dj, rfl, hjk, HJ, HI⟩ := hrel
                    obtain ⟨G2, hG2⟩ : ∃ G2 : Nat → Int, ∀ t, G2 t = dj[t]! := ⟨fun t => dj[t]!, fun _ => rfl⟩
                    have hcw : ∀ t, t < d.size → wr.cell? ⟨blk, off + t, none⟩ = some (.int .u64 (G2 t)) := fun t ht => by rw [hG2]; exact HJ.out.cell hblk HH.out ht
                    have hfw : ∀ t, t < d.size → wr.frozen? ⟨blk, off + t, none⟩ = false := fun t ht => HJ.out.frozen hblk HH.out ht
                    have HG2 := Lib.hid hG2
                    clear hG2
                    by_cases hj1 : 1 ≤ j
                    · have hj1' : (1 : Int) ≤ (j : Int) := by omega
                      cases hl2 : ltInt (G2 j) (G2 (j - 1)) with
                      | true =>
                        have HN := Lib.hid (show shiftDown ltInt (j - 1) (swp dj j (j - 1)) = shiftDown ltInt (k - 1) d2 from by rw [← HI.out, shiftDown_go ltInt j dj hj1 (by rw [← HG2.out, ← HG2.out]; exact hl2)])
                        go_wp2_with fail
                        go_quiet (first | (go_at_call 47; refine Calls.quiet_of_same (less_u64 _ _ _)))
                        go_wp2_with fail
                        have HJq := Lib.hid (HJ.out.drewN nq)
                        have hcw3 : ∀ t, t < d.size → (wr.drewN nq).cell? ⟨blk, off + t, none⟩ = some (.int .u64 (G2 t)) := hcw
                        have hfw3 : ∀ t, t < d.size → (wr.drewN nq).frozen? ⟨blk, off + t, none⟩ = false := hfw
                        clear hcw hfw HJ
                        generalize wr.drewN nq = wr5 at hcw3 hfw3 HJq ⊢
                        go_region
                        go_wp2
                        go_roundw
                        case rel => exact ⟨j - 1, swp dj j (j - 1), by congr 1; omega, by omega, Lib.hid (HJq.out.swap1 hblk (by omega) (by omega) (HG2.out _) (HG2.out _)), HN⟩
                        case measure => simp [intOf]; omega
                      | false =>
                        have HF := Lib.hid (show fixDown ltInt a k d2 = dj from by unfold fixDown; rw [if_pos hka, ← HI.out, shiftDown_stop ltInt j dj (Or.inr (by rw [← HG2.out, ← HG2.out]; exact hl2))])
                        go_wp2_with fail
                        go_quiet (first | (go_at_call 47; refine Calls.quiet_of_same (less_u64 _ _ _)))
                        go_wp2
                        go_meet
                        case rel => exact ⟨dj, Lib.hid (HJ.out.drewN nq), HF⟩
                    · have hj1' : ¬ (1 : Int) ≤ (j : Int) := by omega
                      have HF := Lib.hid (show fixDown ltInt a k d2 = dj from by unfold fixDown; rw [if_pos hka, ← HI.out, shiftDown_stop ltInt j dj (Or.inl (by omega))])
                      go_wp2
                      go_meet
                      case rel => exact ⟨dj, HJ, HF⟩
                · have hka' : ¬ (2 : Int) ≤ (k : Int) - (a : Int) := by omega
                  go_wp2
                  go_meet
                  case rel => exact ⟨d2, HW, Lib.hid (by unfold fixDown; rw [if_neg hka])⟩
              case rest =>
                obtain ⟨d3, HW3, HF3⟩ := hcut
                clear HW
                have HN4 := Lib.hid (show partialIns ltInt a b (5 - (s + 1)) k (fixUp ltInt b k d3) = R from by rw [← HO.out, pi_go ltInt a b s i k dk hs HSC.out (by omega) h50, ← HD2.out, HF3.out])
                by_cases hbk : b - k ≥ 2
                · have hbk' : (2 : Int) ≤ (b : Int) - (k : Int) := by omega
                  go_wp2
                  go_loopw [10] (fun vj wx => ∃ (j : Nat) (dj : Array Int), vj = .int .i64 j ∧ k + 1 ≤ j ∧ j ≤ b ∧ Hid (RowNow w blk off d dj wx) ∧ Hid (shiftUp ltInt b j dj = shiftUp ltInt b (k + 1) d3)) (fun vj _ => b - (intOf vj).toNat)
                  case atStart => exact ⟨k + 1, d3, by go_num, Nat.le_refl _, by omega, HW3, Lib.hid rfl⟩
                  case round =>
                    obtain ⟨j, dj, rfl, hkj, hjb, HJ, HI⟩ := hrel
                    obtain ⟨G2, hG2⟩ : ∃ G2 : Nat → Int, ∀ t, G2 t = dj[t]! := ⟨fun t => dj[t]!, fun _ => rfl⟩
                    have hcw : ∀ t, t < d.size → wr.cell? ⟨blk, off + t, none⟩ = some (.int .u64 (G2 t)) := fun t ht => by rw [hG2]; exact HJ.out.cell hblk HH.out ht
                    have hfw : ∀ t, t < d.size → wr.frozen? ⟨blk, off + t, none⟩ = false := fun t ht => HJ.out.frozen hblk HH.out ht
                    have HG2 := Lib.hid hG2
                    clear hG2
                    by_cases hj1 : j < b
                    · have hj1' : (j : Int) < (b : Int) := by omega
                      cases hl2 : ltInt (G2 j) (G2 (j - 1)) with
                      | true =>
                        have HN := Lib.hid (show shiftUp ltInt b (j + 1) (swp dj j (j - 1)) = shiftUp ltInt b (k + 1) d3 from by rw [← HI.out, shiftUp_go ltInt b j dj hj1 (by rw [← HG2.out, ← HG2.out]; exact hl2)])
                        go_wp2_with fail
                        go_quiet (first | (go_at_call 47; refine Calls.quiet_of_same (less_u64 _ _ _)))
                        go_wp2_with fail
                        have HJq := Lib.hid (HJ.out.drewN nq)
                        have hcw3 : ∀ t, t < d.size → (wr.drewN nq).cell? ⟨blk, off + t, none⟩ = some (.int .u64 (G2 t)) := hcw
                        have hfw3 : ∀ t, t < d.size → (wr.drewN nq).frozen? ⟨blk, off + t, none⟩ = false := hfw
                        clear hcw hfw HJ
                        generalize wr.drewN nq = wr5 at hcw3 hfw3 HJq ⊢
                        go_region
                        go_wp2
                        go_roundw
                        case rel => exact ⟨j + 1, swp dj j (j - 1), by go_num, by omega, by omega, Lib.hid (HJq.out.swap1 hblk (by omega) (by omega) (HG2.out _) (HG2.out _)), HN⟩
                        case measure => simp [intOf]; omega
                      | false =>
                        have HF := Lib.hid (show fixUp ltInt b k d3 = dj from by unfold fixUp; rw [if_pos hbk, ← HI.out, shiftUp_stop ltInt b j dj (Or.inr (by rw [← HG2.out, ← HG2.out]; exact hl2))])
                        go_wp2_with fail
                        go_quiet (first | (go_at_call 47; refine Calls.quiet_of_same (less_u64 _ _ _)))
                        go_wp2
                        go_roundw
                        case rel => exact ⟨k, s + 1, dj, rfl, by go_num, by omega, by omega, by omega, Lib.hid (HJ.out.drewN nq), Lib.hid (by rw [← HN4.out, HF.out])⟩
                        case measure => simp [intOf]; omega
                    · have hj1' : ¬ (j : Int) < (b : Int) := by omega
                      have HF := Lib.hid (show fixUp ltInt b k d3 = dj from by unfold fixUp; rw [if_pos hbk, ← HI.out, shiftUp_stop ltInt b j dj (Or.inl (by omega))])
                      go_wp2
                      go_roundw
                      case rel => exact ⟨k, s + 1, dj, rfl, by go_num, by omega, by omega, by omega, HJ, Lib.hid (by rw [← HN4.out, HF.out])⟩
                      case measure => simp [intOf]; omega
                · have hbk' : ¬ (2 : Int) ≤ (b : Int) - (k : Int) := by omega
                  go_wp2
                  go_roundw
                  case rel => exact ⟨k, s + 1, d3, rfl, by go_num, by omega, by omega, by omega, HW3, Lib.hid (by rw [← HN4.out]; unfold fixUp; rw [if_neg hbk])⟩
                  case measure => simp [intOf]; omega
        · obtain rfl : k = b := by omega
          have hk' : decide ((k : Int) < (k : Int)) = false := decide_eq_false (by omega)
          have HE := Lib.hid (show R = (dk, true) from by rw [← HO.out, pi_true ltInt a k s i dk hs (by rw [← HC.out, scanSorted_stop ltInt dk k k (Or.inl (by omega))])])
          go_wp2_with fail
          go_quiet (first | (go_at_call 47; refine Calls.quiet_of_same (less_u64 _ _ _)))
          go_wp2
          go_ret
          exact ⟨by rw [HE.out]; rfl, by rw [HE.out]; exact HK.out.drewN nq⟩
    · obtain rfl : s = 5 := by omega
      have HE := Lib.hid (show R = (dk, false) from by rw [← HO.out, pi_end])
      go_wp2
      go_ret
      exact ⟨by rw [HE.out]; rfl, by rw [HE.out]; exact HR.out⟩
end Go.Proofs.Ytoohcnjilmcimaa
