/- The sort of the library at uint64: order2Ordered, medianOrdered, medianAdjacentOrdered, choosePivotOrdered, as far as the sort's rightness hangs on them: the pivot lies in the range, the row is as it was. -/
import Derived.Test.YtoohcnjilmcimaaSortA
import Derived.Sort.Walk7
import Derived.Deep.RegionWith
namespace Go.Proofs.Ytoohcnjilmcimaa
open Go.RowKit Go.Sort

/-- the world with a counter behind it, which stands at s -/
def Cnt (w V : World) (s : Nat) : Prop := ∃ n, V = grow (Sort.ahead w n) #[.cells #[.int .i64 (s : Int)] 3]
section
variable {w V : World} {s blk off : Nat} {d : Array Int}
theorem Cnt.start (w : World) : Cnt w (w.alloc (.cells #[.int .i64 0] 3)) 0 := ⟨0, by rw [alloc_eq_grow]; rfl⟩
theorem Cnt.drewN (h : Cnt w V s) (q : Nat) : Cnt w (V.drewN q) s := by
  obtain ⟨n, rfl⟩ := h
  exact ⟨n + q, by rw [← ahead_ahead]; rfl⟩
theorem Cnt.old (h : Cnt w V s) {b o : Nat} (hb : b < w.heap.size) : V.cell? ⟨b, o, none⟩ = w.cell? ⟨b, o, none⟩ := by
  obtain ⟨n, rfl⟩ := h
  exact cell?_grow _ _ _ hb
theorem Cnt.cell (h : Cnt w V s) : V.cell? ⟨w.heap.size, 0, none⟩ = some (.int .i64 (s : Int)) := by
  obtain ⟨n, rfl⟩ := h
  exact grow_one_cell (Sort.ahead w n) _ _
theorem Cnt.frozen (h : Cnt w V s) : V.frozen? ⟨w.heap.size, 0, none⟩ = false := by
  obtain ⟨n, rfl⟩ := h
  exact grow_one_frozen (Sort.ahead w n) _ _
theorem Cnt.set_ (h : Cnt w V s) (t : Nat) {z : Int} (hz : z = (t : Int)) : Cnt w (V.setCell ⟨w.heap.size, 0, none⟩ (.int .i64 z)) t := by
  obtain ⟨n, rfl⟩ := h
  subst hz
  exact ⟨n, setCell_grow_one (Sort.ahead w n) _ _ _⟩
theorem Cnt.row (h : Cnt w V s) (hH : Holds (Value.int .u64) w blk off d) : RowNow w blk off d d V := by
  obtain ⟨n, rfl⟩ := h
  exact ⟨rfl, n, _, by rw [putRow_self _ _ _ _ _ (holds_ahead _ w n blk off d hH)]⟩
end

/-- two of the row's numbers, in whatever order -/
def OrderPost (w : World) (x y s : Nat) (e : Ending) (V' : World) : Prop :=
  ∃ x' y' s' : Nat, e = .returned (.tuple #[.int .i64 x', .int .i64 y']) ∧ (x' = x ∧ y' = y ∨ x' = y ∧ y' = x) ∧ s' ≤ s + 1 ∧ Cnt w V' s'
set_option maxHeartbeats 1000000 in
theorem order2_u64 (blk off cap : Nat) (d : Array Int) (w : World) (hH : Holds (Value.int .u64) w blk off d) (hblk : blk < w.heap.size) (hsz : d.size < 4611686018427387904) (x y s : Nat) (hx : x < d.size) (hy : y < d.size) (hs : s ≤ 100) (V : World) (hV : Cnt w V s) :
    Calls Try.prog 59 #[.slice (some ⟨blk, off, none⟩) d.size cap, .int .i64 x, .int .i64 y, .pointer (some ⟨w.heap.size, 0, none⟩)] V (OrderPost w x y s) := by
  obtain ⟨gx, cx⟩ : ∃ g, V.cell? ⟨blk, off + x, none⟩ = some (.int .u64 g) := ⟨_, by rw [hV.old hblk]; exact (hH x hx).1⟩
  obtain ⟨gy, cy⟩ : ∃ g, V.cell? ⟨blk, off + y, none⟩ = some (.int .u64 g) := ⟨_, by rw [hV.old hblk]; exact (hH y hy).1⟩
  have cs := hV.cell
  have fs := hV.frozen
  have HV := Lib.hid hV
  clear hV hH
  cases hl : ltInt gy gx with
  | true =>
    go_enter Try.func59, Try.ntmps59
    go_wp2
    go_region_with (go_at_call 47; refine (less_u64 _ _ _).mono ?_; rintro e w' ⟨rfl, rfl⟩)
    all_goals
      go_wp2
      go_ret2
      exact ⟨y, x, s + 1, rfl, .inr ⟨rfl, rfl⟩, by omega, (HV.out.drewN 1).set_ (s + 1) (by simp)⟩
  | false =>
    go_enter Try.func59, Try.ntmps59
    go_wp2
    go_region_with (go_at_call 47; refine (less_u64 _ _ _).mono ?_; rintro e w' ⟨rfl, rfl⟩)
    all_goals
      go_wp2
      go_ret2
      exact ⟨x, y, s, rfl, .inl ⟨rfl, rfl⟩, by omega, HV.out.drewN 1⟩

/-- one of the numbers of which the post says so -/
def MedianPost (w : World) (p : Nat → Prop) (s : Nat) (e : Ending) (V' : World) : Prop :=
  ∃ m s' : Nat, e = .returned (.int .i64 m) ∧ p m ∧ s' ≤ s + 3 ∧ Cnt w V' s'
set_option maxHeartbeats 1000000 in
set_option maxRecDepth 100000 in
theorem median_u64 (blk off cap : Nat) (d : Array Int) (w : World) (hH : Holds (Value.int .u64) w blk off d) (hblk : blk < w.heap.size) (hsz : d.size < 4611686018427387904) (x y z s : Nat) (hx : x < d.size) (hy : y < d.size) (hz : z < d.size) (hs : s ≤ 90) (V : World) (hV : Cnt w V s) :
    Calls Try.prog 57 #[.slice (some ⟨blk, off, none⟩) d.size cap, .int .i64 x, .int .i64 y, .int .i64 z, .pointer (some ⟨w.heap.size, 0, none⟩)] V (MedianPost w (fun m => m = x ∨ m = y ∨ m = z) s) := by
  have HO := Lib.hid (order2_u64 blk off cap d w hH hblk hsz)
  clear hH
  go_enter Try.func57, Try.ntmps57
  go_wp2_with fail
  refine (HO.out x y s hx hy (by omega) V hV).mono ?_
  rintro e V1 ⟨x1, y1, s1, rfl, h1, hs1, hV1⟩
  go_wp2_with fail
  refine (HO.out y1 z s1 (by omega) hz (by omega) V1 hV1).mono ?_
  rintro e V2 ⟨y2, z2, s2, rfl, h2, hs2, hV2⟩
  go_wp2_with fail
  refine (HO.out x1 y2 s2 (by omega) (by omega) (by omega) V2 hV2).mono ?_
  rintro e V3 ⟨x3, y3, s3, rfl, h3, hs3, hV3⟩
  go_wp2
  go_ret
  exact ⟨y3, s3, rfl, by omega, by omega, hV3⟩
set_option maxHeartbeats 1000000 in
theorem adjacent_u64 (blk off cap : Nat) (d : Array Int) (w : World) (hH : Holds (Value.int .u64) w blk off d) (hblk : blk < w.heap.size) (hsz : d.size < 4611686018427387904) (x s : Nat) (h1 : 1 ≤ x) (hx : x + 1 < d.size) (hs : s ≤ 90) (V : World) (hV : Cnt w V s) :
    Calls Try.prog 56 #[.slice (some ⟨blk, off, none⟩) d.size cap, .int .i64 x, .pointer (some ⟨w.heap.size, 0, none⟩)] V (MedianPost w (fun m => x ≤ m + 1 ∧ m ≤ x + 1) s) := by
  have hm := median_u64 blk off cap d w hH hblk hsz (x - 1) x (x + 1) s (by omega) (by omega) hx hs V hV
  rw [show ((x - 1 : Nat) : Int) = (x : Int) - 1 by omega, show ((x + 1 : Nat) : Int) = (x : Int) + 1 by omega] at hm
  have HM := Lib.hid hm
  clear hm hH
  go_enter Try.func56, Try.ntmps56
  go_wp2_with fail
  refine HM.out.mono ?_
  rintro e V1 ⟨m, s1, rfl, hm, hs1, hV1⟩
  go_wp2
  go_ret
  exact ⟨m, s1, rfl, by omega, hs1, hV1⟩

/-- a place in the range, and a hint -/
def PivotPost (w : World) (blk off : Nat) (d : Array Int) (a b : Nat) (e : Ending) (w' : World) : Prop :=
  ∃ p h : Nat, e = .returned (.tuple #[.int .i64 p, .int .i64 h]) ∧ a ≤ p ∧ p < b ∧ h ≤ 2 ∧ RowNow w blk off d d w'
theorem pivot_done {w V : World} {blk off s a b p : Nat} {d : Array Int} (hH : Holds (Value.int .u64) w blk off d) (hV : Cnt w V s) (h1 : a ≤ p) (h2 : p < b) (h : Nat) (hh : h ≤ 2) {z : Int} (hz : z = (h : Int)) : PivotPost w blk off d a b (.returned (.tuple #[.int .i64 p, .int .i64 z])) V := by
  subst hz
  exact ⟨p, h, rfl, h1, h2, hh, hV.row hH⟩
set_option maxHeartbeats 2000000 in
set_option maxRecDepth 100000 in
theorem pivot_u64 (blk off cap a b : Nat) (d : Array Int) (w : World) (hH : Holds (Value.int .u64) w blk off d) (hblk : blk < w.heap.size) (hab : a < b) (hb : b ≤ d.size) (hsz : d.size < 4611686018427387904) :
    Calls Try.prog 44 #[.slice (some ⟨blk, off, none⟩) d.size cap, .int .i64 a, .int .i64 b] w (PivotPost w blk off d a b) := by
  have HH := Lib.hid hH
  have HA := Lib.hid (adjacent_u64 blk off cap d w hH hblk hsz)
  have HM := Lib.hid (median_u64 blk off cap d w hH hblk hsz)
  have HC := Lib.hid (Cnt.start w)
  clear hH
  obtain ⟨I, hI⟩ : ∃ I : Nat, I = a + (b - a) / 4 * 1 := ⟨_, rfl⟩
  obtain ⟨J, hJ⟩ : ∃ J : Nat, J = a + (b - a) / 4 * 2 := ⟨_, rfl⟩
  obtain ⟨K, hK⟩ : ∃ K : Nat, K = a + (b - a) / 4 * 3 := ⟨_, rfl⟩
  have eI : ((a : Int) + ((b : Int) - (a : Int)) / 4) = (I : Int) := by omega
  have eJ : ((a : Int) + ((b : Int) - (a : Int)) / 4 * 2) = (J : Int) := by omega
  have eK : ((a : Int) + ((b : Int) - (a : Int)) / 4 * 3) = (K : Int) := by omega
  by_cases h8 : b - a ≥ 8
  · by_cases h50 : b - a ≥ 50
    · have b1 : 1 ≤ I ∧ I + 1 < d.size := by omega
      have b2 : 1 ≤ J ∧ J + 1 < d.size := by omega
      have b3 : 1 ≤ K ∧ K + 1 < d.size := by omega
      have b4 : a + 1 ≤ I ∧ a + 1 ≤ J ∧ a + 1 ≤ K ∧ I + 1 < b ∧ J + 1 < b ∧ K + 1 < b := by omega
      clear hI hJ hK
      go_enter Try.func44, Try.ntmps44
      go_wp2_with fail
      refine (HA.out I 0 b1.1 b1.2 (by omega) _ HC.out).mono ?_
      rintro e V1 ⟨i1, s1, rfl, h1, hs1, hV1⟩
      go_wp2_with fail
      refine (HA.out J s1 b2.1 b2.2 (by omega) V1 hV1).mono ?_
      rintro e V2 ⟨j1, s2, rfl, h2, hs2, hV2⟩
      go_wp2_with fail
      refine (HA.out K s2 b3.1 b3.2 (by omega) V2 hV2).mono ?_
      rintro e V3 ⟨k1, s3, rfl, h3, hs3, hV3⟩
      go_wp2_with fail
      refine (HM.out i1 j1 k1 s3 (by omega) (by omega) (by omega) (by omega) V3 hV3).mono ?_
      rintro e V4 ⟨m, s4, rfl, h4, hs4, hV4⟩
      have hm : a ≤ m ∧ m < b := by omega
      have c4 := hV4.cell
      clear h1 h2 h3 h4
      go_wp2
      all_goals
        go_ret2
        first
          | exact pivot_done HH.out hV4 hm.1 hm.2 1 (by omega) rfl
          | exact pivot_done HH.out hV4 hm.1 hm.2 2 (by omega) rfl
          | exact pivot_done HH.out hV4 hm.1 hm.2 0 (by omega) rfl
    · have b1 : I < d.size ∧ J < d.size ∧ K < d.size := by omega
      have b4 : a ≤ I ∧ a ≤ J ∧ a ≤ K ∧ I < b ∧ J < b ∧ K < b := by omega
      clear hI hJ hK
      go_enter Try.func44, Try.ntmps44
      go_wp2_with fail
      refine (HM.out I J K 0 b1.1 b1.2.1 b1.2.2 (by omega) _ HC.out).mono ?_
      rintro e V4 ⟨m, s4, rfl, h4, hs4, hV4⟩
      have hm : a ≤ m ∧ m < b := by omega
      have c4 := hV4.cell
      clear h4
      go_wp2
      all_goals
        go_ret2
        first
          | exact pivot_done HH.out hV4 hm.1 hm.2 1 (by omega) rfl
          | exact pivot_done HH.out hV4 hm.1 hm.2 2 (by omega) rfl
          | exact pivot_done HH.out hV4 hm.1 hm.2 0 (by omega) rfl
  · have b4 : a ≤ J ∧ J < b := by omega
    clear hI hJ hK
    go_enter Try.func44, Try.ntmps44
    go_wp2
    go_ret2
    exact pivot_done HH.out HC.out b4.1 b4.2 1 (by omega) rfl
end Go.Proofs.Ytoohcnjilmcimaa
