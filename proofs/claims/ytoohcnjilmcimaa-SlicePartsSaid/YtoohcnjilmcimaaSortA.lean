/- The sort of the library at uint64: cmp.Less, the row as it stands, insertionSortOrdered: by their contracts, in the words of the library's plain sort. -/
import Derived.Test.YtoohcnjilmcimaaProg
import Derived.Test.YtoohcnjilmcimaaKit
import Derived.Sort.WalkA
import Derived.Sort.Grow
namespace Go.Proofs.Ytoohcnjilmcimaa
open Go.RowKit Go.Sort

theorem isNaN_u64 (x : Int) (w : World) : Calls Try.prog 58 #[.int .u64 x] w fun e w' => e = .returned (.bool false) ∧ w' = w := by
  go_enter Try.func58, Try.ntmps58
  go_wp2
  go_ret
  exact ⟨by simp, rfl⟩
theorem less_u64 (x y : Int) (w : World) : Calls Try.prog 47 #[.int .u64 x, .int .u64 y] w fun e w' => e = .returned (.bool (ltInt x y)) ∧ w' = w := by
  go_enter Try.func47, Try.ntmps47
  go_wp2_with (go_at_call 58; refine (isNaN_u64 _ _).mono ?_; rintro e w' ⟨rfl, rfl⟩)
  go_ret
  exact ⟨rfl, rfl⟩

/-- the row now holds d' where it held d: so many draws and new blocks on, all else as it was -/
def RowNow (w : World) (blk off : Nat) (d d' : Array Int) (w' : World) : Prop :=
  d'.size = d.size ∧ ∃ n os, w' = grow (putRow (Value.int .u64) (Sort.ahead w n) blk off d') os
section
variable {w w' w'' : World} {blk off : Nat} {d d' d'' : Array Int}
theorem RowNow.start (h : Holds (Value.int .u64) w blk off d) : RowNow w blk off d d w :=
  ⟨rfl, 0, #[], by rw [grow_empty]; exact (putRow_self _ _ _ _ _ h).symm⟩
theorem RowNow.drewN (h : RowNow w blk off d d' w') (q : Nat) : RowNow w blk off d d' (w'.drewN q) := by
  obtain ⟨h1, n, os, rfl⟩ := h
  exact ⟨h1, n + q, os, by rw [← putRow_drewN]; rfl⟩
theorem RowNow.lt (hb : blk < w.heap.size) (h : RowNow w blk off d d' w') : blk < w'.heap.size := by
  obtain ⟨_, n, os, rfl⟩ := h
  simp; omega
theorem RowNow.cell (hb : blk < w.heap.size) (h0 : Holds (Value.int .u64) w blk off d) (h : RowNow w blk off d d' w') {t : Nat} (ht : t < d.size) : w'.cell? ⟨blk, off + t, none⟩ = some (.int .u64 d'[t]!) := by
  obtain ⟨h1, n, os, rfl⟩ := h
  rw [cell?_grow _ _ _ (by simpa using hb)]
  exact cell?_putRow _ _ _ _ d d' (holds_ahead _ _ n _ _ _ h0) h1 t (by omega)
theorem RowNow.frozen (hb : blk < w.heap.size) (h0 : Holds (Value.int .u64) w blk off d) (h : RowNow w blk off d d' w') {t : Nat} (ht : t < d.size) : w'.frozen? ⟨blk, off + t, none⟩ = false := by
  obtain ⟨h1, n, os, rfl⟩ := h
  rw [frozen?_grow _ _ _ (by simpa using hb), frozen?_putRow]
  exact (h0 t ht).2
theorem RowNow.holds (hb : blk < w.heap.size) (h0 : Holds (Value.int .u64) w blk off d) (h : RowNow w blk off d d' w') : Holds (Value.int .u64) w' blk off d' :=
  fun _ ht => ⟨h.cell hb h0 (by rw [← h.1]; exact ht), h.frozen hb h0 (by rw [← h.1]; exact ht)⟩
theorem RowNow.trans (hb : blk < w.heap.size) (h : RowNow w blk off d d' w') (h2 : RowNow w' blk off d' d'' w'') : RowNow w blk off d d'' w'' := by
  obtain ⟨h1, n, os, rfl⟩ := h
  obtain ⟨h3, m, os', rfl⟩ := h2
  exact ⟨h3.trans h1, _, _, grow_step_grow _ _ _ _ _ _ _ _ _ _ hb h3⟩
theorem setCell_grow_old (X : World) (os : Array Obj) (b o : Nat) (v : Value) (h : b < X.heap.size) : (grow X os).setCell ⟨b, o, none⟩ v = grow (X.setCell ⟨b, o, none⟩ v) os := by
  rw [setCell_eq, setCell_eq, mapBlock_grow _ _ _ _ h]
theorem RowNow.swap (hb : blk < w.heap.size) (h : RowNow w blk off d d' w') {j k q : Nat} {x y : Int} (hj : j < d.size) (hk : k < d.size) (hx : x = d'[j]!) (hy : y = d'[k]!) :
    RowNow w blk off d (Sort.swp d' j k) (((w'.drewN q).setCell ⟨blk, off + j, none⟩ (.int .u64 y)).setCell ⟨blk, off + k, none⟩ (.int .u64 x)) := by
  obtain ⟨h1, n, os, rfl⟩ := h
  subst hx hy
  refine ⟨by rw [size_swp]; exact h1, n + q, os, ?_⟩
  show (((grow ((putRow (Value.int .u64) (Sort.ahead w n) blk off d').drewN q) os).setCell _ _).setCell _ _) = _
  rw [setCell_grow_old _ _ _ _ _ (by simpa [World.drewN] using hb), setCell_grow_old _ _ _ _ _ (by simpa [World.drewN] using hb), swap_worldA _ w n q blk off d' j k (by omega) (by omega)]
end

set_option maxHeartbeats 1000000 in
theorem insertion_u64 (blk off cap a b : Nat) (d : Array Int) (w : World) (hH : Holds (Value.int .u64) w blk off d) (hblk : blk < w.heap.size) (hab : a ≤ b) (hb : b ≤ d.size) (hsz : d.size < 4611686018427387904) :
    Calls Try.prog 41 #[.slice (some ⟨blk, off, none⟩) d.size cap, .int .i64 a, .int .i64 b] w fun e w' =>
      e = .returned (.tuple #[]) ∧ RowNow w blk off d (insertionSort ltInt d a b) w' := by
  have HH := Lib.hid hH
  have HS := Lib.hid (RowNow.start hH)
  clear hH
  go_enter Try.func41, Try.ntmps41
  go_wp2
  go_loopw [6] (fun vi wr => ∃ (i : Nat) (dk : Array Int), vi = .int .i64 i ∧ a < i ∧ i ≤ b + 1 ∧ Hid (RowNow w blk off d dk wr) ∧ Hid (insOuter ltInt a b i dk = insertionSort ltInt d a b)) (fun vi _ => b + 1 - (intOf vi).toNat)
  case atStart => exact ⟨a + 1, d, by go_num, by omega, by omega, HS, Lib.hid rfl⟩
  case round =>
    obtain ⟨i, dk, rfl, hai, hib, HW, HO⟩ := hrel
    by_cases hlt : i < b
    · go_wp2
      go_loopw [7] (fun vj wr2 => ∃ (j : Nat) (dj : Array Int), vj = .int .i64 j ∧ a ≤ j ∧ j ≤ i ∧ Hid (RowNow w blk off d dj wr2) ∧ Hid (insInner ltInt a j dj = insInner ltInt a i dk)) (fun vj _ => (intOf vj).toNat)
      case atStart => exact ⟨i, dk, rfl, by omega, Nat.le_refl _, HW, Lib.hid rfl⟩
      case round =>
        obtain ⟨j, dj, rfl, haj, hji, HJ, HI⟩ := hrel
        obtain ⟨G, hG⟩ : ∃ G : Nat → Int, ∀ t, G t = dj[t]! := ⟨fun t => dj[t]!, fun _ => rfl⟩
        have hcw : ∀ t, t < d.size → wr.cell? ⟨blk, off + t, none⟩ = some (.int .u64 (G t)) := fun t ht => by rw [hG]; exact HJ.out.cell hblk HH.out ht
        have hfw : ∀ t, t < d.size → wr.frozen? ⟨blk, off + t, none⟩ = false := fun t ht => HJ.out.frozen hblk HH.out ht
        have HG := Lib.hid hG
        clear hG
        have HOut := Lib.hid (fun (hs : j ≤ a ∨ ltInt dj[j]! dj[j - 1]! = false) => show insOuter ltInt a b (i + 1) dj = insertionSort ltInt d a b from by
          rw [← HO.out, insOuter_go _ _ _ _ _ hlt, ← HI.out, insInner_stop _ _ _ _ hs])
        go_wp2
        by_cases hja : a < j
        · go_quiet (first | (go_at_call 47; refine Calls.quiet_of_same (less_u64 _ _ _)))
          go_wp2
          · have hl : ltInt (G j) (G (j - 1)) = true := by assumption
            go_region
            all_goals go_wp2
            go_roundw
            case rel => exact ⟨j - 1, swp dj j (j - 1), by congr 1; omega, by omega, by omega, Lib.hid (HJ.out.swap hblk (by omega) (by omega) (HG.out _) (HG.out _)), Lib.hid (by rw [← HI.out, insInner_go ltInt a j dj hja (by rw [← HG.out, ← HG.out]; exact hl)])⟩
            case measure => simp [intOf]; omega
          · have hl : ltInt (G j) (G (j - 1)) = false := by assumption
            go_roundw
            case rel => exact ⟨i + 1, dj, by go_num, by omega, by omega, Lib.hid (HJ.out.drewN nq), Lib.hid (HOut.out (.inr (by rw [← HG.out, ← HG.out]; exact hl)))⟩
            case measure => simp [intOf]; omega
        · go_quiet (first | (go_at_call 47; refine Calls.quiet_of_same (less_u64 _ _ _)))
          go_wp2
          go_roundw
          case rel => exact ⟨i + 1, dj, by go_num, by omega, by omega, Lib.hid (HJ.out.drewN nq), Lib.hid (HOut.out (.inl (by omega)))⟩
          case measure => simp [intOf]; omega
    · go_wp2
      go_end0
      exact ⟨rfl, by rw [← HO.out, insOuter_stop _ _ _ _ _ hlt]; exact HW.out⟩
end Go.Proofs.Ytoohcnjilmcimaa
