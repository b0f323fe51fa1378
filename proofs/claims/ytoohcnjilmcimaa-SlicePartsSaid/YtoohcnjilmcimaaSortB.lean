/- The sort of the library at uint64: siftDownOrdered, heapSortOrdered, reverseRangeOrdered: by their contracts, in the words of the library's plain sort. -/
import Derived.Test.YtoohcnjilmcimaaSortA
import Derived.Sort.WalkB3
namespace Go.Proofs.Ytoohcnjilmcimaa
open Go.RowKit Go.Sort

theorem RowNow.swap1 {w w' : World} {blk off : Nat} {d d' : Array Int} (hb : blk < w.heap.size) (h : RowNow w blk off d d' w') {j k : Nat} {x y : Int} (hj : j < d.size) (hk : k < d.size) (hx : x = d'[j]!) (hy : y = d'[k]!) :
    RowNow w blk off d (Sort.swp d' j k) (((w'.setCell ⟨blk, off + j, none⟩ (.int .u64 y)).setCell ⟨blk, off + k, none⟩ (.int .u64 x)).drew) := by
  have := (h.swap hb (q := 0) hj hk hx hy).drewN 1
  exact this

set_option maxHeartbeats 3200000 in
set_option maxRecDepth 1000000 in
theorem sift_u64 (blk off cap : Nat) (d : Array Int) (lo hi first : Nat) (w : World) (hH : Holds (Value.int .u64) w blk off d) (hblk : blk < w.heap.size) (hlo : lo ≤ hi) (hb : first + hi ≤ d.size) (hsz : d.size < 4611686018427387904) :
    Calls Try.prog 53 #[.slice (some ⟨blk, off, none⟩) d.size cap, .int .i64 lo, .int .i64 hi, .int .i64 first] w fun e w' =>
      e = .returned (.tuple #[]) ∧ RowNow w blk off d (siftDown ltInt hi first lo d) w' := by
  have HH := Lib.hid hH
  have HS := Lib.hid (RowNow.start hH)
  clear hH
  go_enter Try.func53, Try.ntmps53
  go_wp2
  go_loopw [8] (fun s8 wr => ∃ (root : Nat) (dk : Array Int), s8 = .int .i64 root ∧ root ≤ hi ∧ Hid (RowNow w blk off d dk wr) ∧ Hid (siftDown ltInt hi first root dk = siftDown ltInt hi first lo d)) (fun s8 _ => hi - (intOf s8).toNat)
  case atStart => exact ⟨lo, d, rfl, hlo, HS, Lib.hid rfl⟩
  case round =>
    obtain ⟨root, dk, rfl, hr, HR, HQ⟩ := hrel
    obtain ⟨G, hG⟩ : ∃ G : Nat → Int, ∀ t, G t = dk[t]! := ⟨fun t => dk[t]!, fun _ => rfl⟩
    have hcw : ∀ t, t < d.size → wr.cell? ⟨blk, off + t, none⟩ = some (.int .u64 (G t)) := fun t ht => by rw [hG]; exact HR.out.cell hblk HH.out ht
    have hfw : ∀ t, t < d.size → wr.frozen? ⟨blk, off + t, none⟩ = false := fun t ht => HR.out.frozen hblk HH.out ht
    have HG := Lib.hid hG
    clear hG
    by_cases h0 : hi ≤ 2 * root + 1
    · have h0z : (hi : Int) ≤ 2 * (root : Int) + 1 := by omega
      go_wp2
      go_end0
      exact ⟨rfl, by rw [← HQ.out, sd_end ltInt dk h0]; exact HR.out⟩
    · have h0z : ¬ ((hi : Int) ≤ 2 * (root : Int) + 1) := by omega
      by_cases h1 : 2 * root + 2 < hi
      · have h1z : 2 * (root : Int) + 1 + 1 < (hi : Int) := by omega
        cases hL : ltInt (G (first + 2 * root + 1)) (G (first + 2 * root + 2)) with
        | true =>
          have HL := Lib.hid (show ltInt dk[first + (2 * root + 1)]! dk[first + (2 * root + 2)]! = true by rw [← HG.out, ← HG.out]; exact hL)
          go_wp2_with fail
          go_big_quiet (first | (go_at_call 47; refine Calls.quiet_of_same (less_u64 _ _ _)))
          go_wp2_with fail
          revert nq
          intro nq1
          have HR2 := Lib.hid (HR.out.drewN nq1)
          have hcw2 : ∀ t, t < d.size → (wr.drewN nq1).cell? ⟨blk, off + t, none⟩ = some (.int .u64 (G t)) := hcw
          have hfw2 : ∀ t, t < d.size → (wr.drewN nq1).frozen? ⟨blk, off + t, none⟩ = false := hfw
          clear hcw hfw
          generalize wr.drewN nq1 = wr2 at hcw2 hfw2 HR2 ⊢
          cases hS : ltInt (G (first + root)) (G (first + 2 * root + 2)) with
          | false =>
            have HE := Lib.hid (show siftDown ltInt hi first root dk = dk from sd_right_stop ltInt dk h1 HL.out (by rw [← HG.out, ← HG.out]; exact hS))
            go_big_quiet (first | (go_at_call 47; refine Calls.quiet_of_same (less_u64 _ _ _)))
            go_wp2_with fail
            (try simp only [Exit.inBlock, Exit.then])
            refine bodyPost_ret (results_none rfl _ _ _) rfl ?_
            exact ⟨rfl, by rw [← HQ.out, HE.out]; exact HR2.out.drewN nq⟩
          | true =>
            have HE := Lib.hid (show siftDown ltInt hi first root dk = siftDown ltInt hi first (2 * root + 2) (swp dk (first + root) (first + (2 * root + 2))) from sd_right_go ltInt dk h1 HL.out (by rw [← HG.out, ← HG.out]; exact hS))
            go_big_quiet (first | (go_at_call 47; refine Calls.quiet_of_same (less_u64 _ _ _)))
            go_wp2_with fail
            have HR3 := Lib.hid (HR2.out.drewN nq)
            have hcw3 : ∀ t, t < d.size → (wr2.drewN nq).cell? ⟨blk, off + t, none⟩ = some (.int .u64 (G t)) := hcw2
            have hfw3 : ∀ t, t < d.size → (wr2.drewN nq).frozen? ⟨blk, off + t, none⟩ = false := hfw2
            clear hcw2 hfw2
            generalize wr2.drewN nq = wr3 at hcw3 hfw3 HR3 ⊢
            go_region
            go_wp2
            go_roundw
            case rel => exact ⟨2 * root + 2, swp dk (first + root) (first + (2 * root + 2)), by congr 1 <;> omega, by omega, Lib.hid ((HR3.out.swap1 hblk (by omega) (by omega) (HG.out _) (HG.out _))), Lib.hid (by rw [← HQ.out, HE.out])⟩
            case measure => simp [intOf]; omega
        | false =>
          have HL := Lib.hid (show ltInt dk[first + (2 * root + 1)]! dk[first + (2 * root + 2)]! = false by rw [← HG.out, ← HG.out]; exact hL)
          go_wp2_with fail
          go_big_quiet (first | (go_at_call 47; refine Calls.quiet_of_same (less_u64 _ _ _)))
          go_wp2_with fail
          revert nq
          intro nq1
          have HR2 := Lib.hid (HR.out.drewN nq1)
          have hcw2 : ∀ t, t < d.size → (wr.drewN nq1).cell? ⟨blk, off + t, none⟩ = some (.int .u64 (G t)) := hcw
          have hfw2 : ∀ t, t < d.size → (wr.drewN nq1).frozen? ⟨blk, off + t, none⟩ = false := hfw
          clear hcw hfw
          generalize wr.drewN nq1 = wr2 at hcw2 hfw2 HR2 ⊢
          cases hS : ltInt (G (first + root)) (G (first + 2 * root + 1)) with
          | false =>
            have HE := Lib.hid (show siftDown ltInt hi first root dk = dk from sd_left_stop ltInt dk (by omega) (fun _ => HL.out) (by rw [← HG.out, ← HG.out]; exact hS))
            go_big_quiet (first | (go_at_call 47; refine Calls.quiet_of_same (less_u64 _ _ _)))
            go_wp2_with fail
            (try simp only [Exit.inBlock, Exit.then])
            refine bodyPost_ret (results_none rfl _ _ _) rfl ?_
            exact ⟨rfl, by rw [← HQ.out, HE.out]; exact HR2.out.drewN nq⟩
          | true =>
            have HE := Lib.hid (show siftDown ltInt hi first root dk = siftDown ltInt hi first (2 * root + 1) (swp dk (first + root) (first + (2 * root + 1))) from sd_left_go ltInt dk (by omega) (fun _ => HL.out) (by rw [← HG.out, ← HG.out]; exact hS))
            go_big_quiet (first | (go_at_call 47; refine Calls.quiet_of_same (less_u64 _ _ _)))
            go_wp2_with fail
            have HR3 := Lib.hid (HR2.out.drewN nq)
            have hcw3 : ∀ t, t < d.size → (wr2.drewN nq).cell? ⟨blk, off + t, none⟩ = some (.int .u64 (G t)) := hcw2
            have hfw3 : ∀ t, t < d.size → (wr2.drewN nq).frozen? ⟨blk, off + t, none⟩ = false := hfw2
            clear hcw2 hfw2
            generalize wr2.drewN nq = wr3 at hcw3 hfw3 HR3 ⊢
            go_region
            go_wp2
            go_roundw
            case rel => exact ⟨2 * root + 1, swp dk (first + root) (first + (2 * root + 1)), by congr 1 <;> omega, by omega, Lib.hid ((HR3.out.swap1 hblk (by omega) (by omega) (HG.out _) (HG.out _))), Lib.hid (by rw [← HQ.out, HE.out])⟩
            case measure => simp [intOf]; omega
      · have h1z : decide (2 * (root : Int) + 1 + 1 < (hi : Int)) = false := decide_eq_false (by omega)
        go_wp2_with fail
        go_big_quiet (first | (go_at_call 47; refine Calls.quiet_of_same (less_u64 _ _ _)))
        go_wp2_with fail
        revert nq
        intro nq1
        have HR2 := Lib.hid (HR.out.drewN nq1)
        have hcw2 : ∀ t, t < d.size → (wr.drewN nq1).cell? ⟨blk, off + t, none⟩ = some (.int .u64 (G t)) := hcw
        have hfw2 : ∀ t, t < d.size → (wr.drewN nq1).frozen? ⟨blk, off + t, none⟩ = false := hfw
        clear hcw hfw
        generalize wr.drewN nq1 = wr2 at hcw2 hfw2 HR2 ⊢
        cases hS : ltInt (G (first + root)) (G (first + 2 * root + 1)) with
        | false =>
          have HE := Lib.hid (show siftDown ltInt hi first root dk = dk from sd_left_stop ltInt dk (by omega) (fun h => absurd h h1) (by rw [← HG.out, ← HG.out]; exact hS))
          go_big_quiet (first | (go_at_call 47; refine Calls.quiet_of_same (less_u64 _ _ _)))
          go_wp2_with fail
          (try simp only [Exit.inBlock, Exit.then])
          refine bodyPost_ret (results_none rfl _ _ _) rfl ?_
          exact ⟨rfl, by rw [← HQ.out, HE.out]; exact HR2.out.drewN nq⟩
        | true =>
          have HE := Lib.hid (show siftDown ltInt hi first root dk = siftDown ltInt hi first (2 * root + 1) (swp dk (first + root) (first + (2 * root + 1))) from sd_left_go ltInt dk (by omega) (fun h => absurd h h1) (by rw [← HG.out, ← HG.out]; exact hS))
          go_big_quiet (first | (go_at_call 47; refine Calls.quiet_of_same (less_u64 _ _ _)))
          go_wp2_with fail
          have HR3 := Lib.hid (HR2.out.drewN nq)
          have hcw3 : ∀ t, t < d.size → (wr2.drewN nq).cell? ⟨blk, off + t, none⟩ = some (.int .u64 (G t)) := hcw2
          have hfw3 : ∀ t, t < d.size → (wr2.drewN nq).frozen? ⟨blk, off + t, none⟩ = false := hfw2
          clear hcw2 hfw2
          generalize wr2.drewN nq = wr3 at hcw3 hfw3 HR3 ⊢
          go_region
          go_wp2
          go_roundw
          case rel => exact ⟨2 * root + 1, swp dk (first + root) (first + (2 * root + 1)), by congr 1 <;> omega, by omega, Lib.hid ((HR3.out.swap1 hblk (by omega) (by omega) (HG.out _) (HG.out _))), Lib.hid (by rw [← HQ.out, HE.out])⟩
          case measure => simp [intOf]; omega

set_option maxHeartbeats 3200000 in
set_option maxRecDepth 1000000 in
theorem heap_u64 (blk off cap a b : Nat) (d : Array Int) (w : World) (hH : Holds (Value.int .u64) w blk off d) (hblk : blk < w.heap.size) (hab : a ≤ b) (hb : b ≤ d.size) (hsz : d.size < 4611686018427387904) :
    Calls Try.prog 42 #[.slice (some ⟨blk, off, none⟩) d.size cap, .int .i64 a, .int .i64 b] w fun e w' =>
      e = .returned (.tuple #[]) ∧ RowNow w blk off d (heapSort ltInt d a b) w' := by
  have ecast : ((b - a : Nat) : Int) = (b : Int) - (a : Int) := by omega
  have HH := Lib.hid hH
  have HS := Lib.hid (RowNow.start hH)
  clear hH
  have hsift := Lib.hid (fun (dk : Array Int) (wr : World) (hR : RowNow w blk off d dk wr) (lo hi : Nat) (h1 : lo ≤ hi) (h2 : a + hi ≤ d.size) => show Calls Try.prog 53 #[.slice (some ⟨blk, off, none⟩) d.size cap, .int .i64 lo, .int .i64 hi, .int .i64 a] wr (fun e w' =>
      e = .returned (.tuple #[]) ∧ RowNow w blk off d (siftDown ltInt hi a lo dk) w') from by
    have := sift_u64 blk off cap dk lo hi a wr (hR.holds hblk HH.out) (hR.lt hblk) h1 (by rw [hR.1]; exact h2) (by rw [hR.1]; exact hsz)
    rw [hR.1] at this
    exact this.mono fun e w' h => ⟨h.1, hR.trans hblk h.2⟩)
  go_enter Try.func42, Try.ntmps42
  go_wp2
  go_loopg [9] ((b - a - 1) / 2 + 1) (fun k s9 wr => s9 = .int .i64 ((k : Int) - 1) ∧ k ≤ (b - a - 1) / 2 + 1 ∧ ∃ dk : Array Int, Hid (RowNow w blk off d dk wr) ∧
    Hid (heapBuild ltInt (b - a) a k dk = heapBuild ltInt (b - a) a ((b - a - 1) / 2 + 1) d))
  case atStart => exact ⟨by rw [half_start hab], Nat.le_refl _, d, HS, Lib.hid rfl⟩
  case round =>
    obtain ⟨rfl, hkk, dk, HR, HQ⟩ := hrel
    cases gk with
    | zero =>
      go_wp2
      go_loopg [10] (b - a) (fun k s10 wr2 => s10 = .int .i64 ((k : Int) - 1) ∧ k ≤ b - a ∧ ∃ dj : Array Int, Hid (RowNow w blk off d dj wr2) ∧ Hid (heapPop ltInt a k dj = heapPop ltInt a (b - a) dk))
      case atStart => exact ⟨by rw [ecast], Nat.le_refl _, dk, HR, Lib.hid rfl⟩
      case round =>
        obtain ⟨rfl, hkk, dj, HJ, HP⟩ := hrel
        cases gk with
        | zero =>
          go_wp2
          go_end0
          exact ⟨rfl, by
            have e : dj = heapSort ltInt d a b := by
              have h1 := HQ.out
              have h2 := HP.out
              rw [heapBuild] at h1
              rw [heapPop] at h2
              rw [heapSort, ← h1, ← h2]
            rw [← e]; exact HJ.out⟩
        | succ k =>
          obtain ⟨G, hG⟩ : ∃ G : Nat → Int, ∀ t, G t = dj[t]! := ⟨fun t => dj[t]!, fun _ => rfl⟩
          have hcw : ∀ t, t < d.size → wr.cell? ⟨blk, off + t, none⟩ = some (.int .u64 (G t)) := fun t ht => by rw [hG]; exact HJ.out.cell hblk HH.out ht
          have hfw : ∀ t, t < d.size → wr.frozen? ⟨blk, off + t, none⟩ = false := fun t ht => HJ.out.frozen hblk HH.out ht
          have HG := Lib.hid hG
          clear hG
          rcases Nat.eq_zero_or_pos k with hk0 | hkp
          · subst hk0
            go_wp2_with fail
            go_region
            have HJ2 := Lib.hid (HJ.out.swap1 hblk (j := a) (k := a) (by omega) (by omega) (HG.out _) (HG.out _))
            clear hcw hfw
            go_wp2_with fail
            refine (hsift.out _ _ HJ2.out 0 0 (by omega) (by omega)).mono ?_
            rintro e w1 ⟨rfl, hw1⟩
            go_wp2
            go_roundg 0
            case measure => omega
            case rel => exact ⟨by simp, by omega, _, Lib.hid hw1, Lib.hid (by have := HP.out; rw [heapPop] at this; exact this)⟩
          · go_wp2_with fail
            go_region
            have HJ2 := Lib.hid (HJ.out.swap1 hblk (j := a) (k := a + k) (by omega) (by omega) (HG.out _) (HG.out _))
            clear hcw hfw
            go_wp2_with fail
            refine (hsift.out _ _ HJ2.out 0 k (by omega) (by omega)).mono ?_
            rintro e w1 ⟨rfl, hw1⟩
            go_wp2
            go_roundg k
            case measure => omega
            case rel => exact ⟨by simp, by omega, _, Lib.hid hw1, Lib.hid (by have := HP.out; rw [heapPop] at this; exact this)⟩
    | succ k =>
      have hcall := hsift.out dk wr HR.out k (b - a) (by omega) (by omega)
      rw [ecast] at hcall
      go_wp2_with (go_at_call 53; refine hcall.mono ?_; rintro e w1 ⟨rfl, hw1⟩)
      go_roundg k
      case measure => omega
      case rel => exact ⟨by simp, by omega, _, Lib.hid hw1, Lib.hid (by have := HQ.out; rw [heapBuild] at this; exact this)⟩

set_option maxHeartbeats 1600000 in
set_option maxRecDepth 1000000 in
theorem reverse_u64 (blk off cap a b : Nat) (d : Array Int) (w : World) (hH : Holds (Value.int .u64) w blk off d) (hblk : blk < w.heap.size) (hab : a ≤ b) (hb : b ≤ d.size) (hsz : d.size < 4611686018427387904) :
    Calls Try.prog 45 #[.slice (some ⟨blk, off, none⟩) d.size cap, .int .i64 a, .int .i64 b] w fun e w' =>
      e = .returned (.tuple #[]) ∧ RowNow w blk off d (reverseRange d a b) w' := by
  have HH := Lib.hid hH
  have HS := Lib.hid (RowNow.start hH)
  clear hH
  go_enter Try.func45, Try.ntmps45
  go_wp2
  go_loopg [6, 7] (b - a) (fun k s6 s7 wr => ∃ (i jn : Nat) (jz : Int) (dk : Array Int), s6 = .int .i64 i ∧ s7 = .int .i64 jz ∧ ((i : Int) < jz → jz = jn ∧ jn < d.size) ∧ (¬ (i : Int) < jz → ¬ i < jn) ∧ jn - i ≤ k ∧
    Hid (RowNow w blk off d dk wr) ∧ Hid (reverseLoop i jn dk = reverseLoop a (b - 1) d))
  case atStart => exact ⟨a, b - 1, (b : Int) - 1, d, rfl, rfl, fun h => ⟨by omega, by omega⟩, fun h => by omega, by omega, HS, Lib.hid rfl⟩
  case round =>
    obtain ⟨i, jn, jz, dk, rfl, rfl, h1, h2, hk, HR, HQ⟩ := hrel
    by_cases hlt : (i : Int) < jz
    · obtain ⟨rfl, hjn⟩ := h1 hlt
      have hij : i < jn := by omega
      obtain ⟨G, hG⟩ : ∃ G : Nat → Int, ∀ t, G t = dk[t]! := ⟨fun t => dk[t]!, fun _ => rfl⟩
      have hcw : ∀ t, t < d.size → wr.cell? ⟨blk, off + t, none⟩ = some (.int .u64 (G t)) := fun t ht => by rw [hG]; exact HR.out.cell hblk HH.out ht
      have hfw : ∀ t, t < d.size → wr.frozen? ⟨blk, off + t, none⟩ = false := fun t ht => HR.out.frozen hblk HH.out ht
      have HG := Lib.hid hG
      clear hG h1 h2
      go_wp2_with fail
      go_region
      go_wp2
      go_roundg (jn - 1 - (i + 1))
      case measure => omega
      case rel => exact ⟨i + 1, jn - 1, (jn : Int) - 1, swp dk i jn, by simp, rfl, fun h => ⟨by omega, by omega⟩, fun h => by omega, Nat.le_refl _, Lib.hid (HR.out.swap1 hblk (by omega) (by omega) (HG.out _) (HG.out _)), Lib.hid (by
        have := HQ.out
        rw [reverseLoop, if_pos hij] at this
        exact this)⟩
    · have hnot := h2 hlt
      go_wp2
      go_end0
      exact ⟨rfl, by
        have := HQ.out
        rw [reverseLoop, if_neg hnot] at this
        rw [reverseRange, ← this]
        exact HR.out⟩
end Go.Proofs.Ytoohcnjilmcimaa
