/- slices.Index and Contains, amblerlaw38.has, the operations that slice.Only, Without, Writes keep: by their contracts. -/
import Derived.Test.YtoohcnjilmcimaaSliceK
import Derived.Test.YtoohcnjilmcimaaTry3
namespace Go.Proofs.Ytoohcnjilmcimaa
open Go.RowKit AmS

/-- a place, if there is one -/
def IndexPost (xs : List Int) (x : Int) (w : World) (e : Ending) (w' : World) : Prop :=
  ∃ i : Int, e = .returned (.int .i64 i) ∧ (0 ≤ i ↔ xs.contains x = true) ∧ -1 ≤ i ∧ i ≤ 65536 ∧ w = w'
theorem index_hit {xs : List Int} {x : Int} {w : World} {k : Nat} (hk : k ≤ 65536) (h : xs.contains x = true) : IndexPost xs x w (.returned (.int .i64 (k : Int))) w :=
  ⟨k, rfl, ⟨fun _ => h, fun _ => by omega⟩, by omega, by omega, rfl⟩
theorem index_miss {xs : List Int} {x : Int} {w : World} (h : xs.contains x = false) : IndexPost xs x w (.returned (.int .i64 (-1))) w :=
  ⟨-1, rfl, ⟨fun h => by omega, fun h2 => by rw [h] at h2; cases h2⟩, by omega, by omega, rfl⟩

set_option maxHeartbeats 400000 in
theorem index_u64 (A : Option Addr) (n c : Nat) (xs : List Int) (x : Int) (w : World) (h : Reads w w.heap.size 1 A n (xs.map (Value.int .u64))) (hn : n ≤ 65536) :
    Calls Try.prog 38 #[.slice A n c, .int .u64 x] w (IndexPost xs x w) := by
  have hl : xs.length = n := by simpa using h.1
  go_enter Try.func38, Try.ntmps38
  go_wp2
  go_loop [4, 5, 8] (fun _ _ i => ∃ k : Nat, k ≤ n ∧ i = .int .i64 k ∧ x ∉ xs.take k) (fun _ _ i => n - (intOf i).toNat)
  case atStart => exact ⟨0, by omega, rfl, by simp⟩
  case round =>
    obtain ⟨k, hk, rfl, hx⟩ := hrel
    by_cases hlt : k < n
    · obtain ⟨b, off, rfl, hb, hc⟩ := h.cells_ (by omega)
      have hc1 := hc k (.int .u64 (xs[k]'(by omega))) (by simp [hl, hlt])
      have hy : xs[k]? = some (xs[k]'(by omega)) := List.getElem?_eq_getElem _
      generalize xs[k]'(by omega) = y at hc1 hy
      have HY := Lib.hid hy
      have HX := Lib.hid hx
      have hlt' : (k : Int) < (n : Int) := by omega
      clear hc hy hx
      cases hxy : (x == y) with
      | true =>
        go_wp2
        go_ret
        exact index_hit (k := k) (by omega) (by
          have := List.mem_of_getElem? HY.out
          rw [beq_iff_eq] at hxy
          rw [hxy]
          simpa using this)
      | false =>
        go_wp2
        go_round
        case rel => exact ⟨k + 1, by omega, by go_num, by
          rw [List.take_add_one, HY.out, List.mem_append]
          rintro (h | h)
          · exact HX.out h
          · rw [beq_eq_false_iff_ne] at hxy
            simp at h
            exact hxy h⟩
        case measure => simp [intOf]; omega
    · have hlt' : ¬ (k : Int) < (n : Int) := by omega
      go_wp2
      go_ret
      exact index_miss (by
        rw [List.take_of_length_le (by omega)] at hx
        simpa using hx)
set_option maxHeartbeats 400000 in
theorem contains_u64 (A : Option Addr) (n c : Nat) (xs : List Int) (x : Int) (w : World) (h : Reads w w.heap.size 1 A n (xs.map (Value.int .u64))) (hn : n ≤ 65536) :
    Calls Try.prog 29 #[.slice A n c, .int .u64 x] w fun e w' => e = .returned (.bool (xs.contains x)) ∧ w = w' := by
  have HI := Lib.hid (index_u64 A n c xs x w h hn)
  clear h
  go_enter Try.func29, Try.ntmps29
  go_wp2_with fail
  refine HI.out.mono ?_
  rintro e w' ⟨i, rfl, hi, h1, h2, rfl⟩
  go_wp2
  go_ret
  exact ⟨ret_bool (by first | simp | (rw [Bool.eq_iff_iff]; simp only [decide_eq_true_eq]; exact hi)), rfl⟩

set_option maxHeartbeats 400000 in
theorem index_i64 (A : Option Addr) (n c : Nat) (xs : List Int) (x : Int) (w : World) (h : Reads w w.heap.size 1 A n (xs.map (Value.int .i64))) (hn : n ≤ 65536) :
    Calls Try.prog 39 #[.slice A n c, .int .i64 x] w (IndexPost xs x w) := by
  have hl : xs.length = n := by simpa using h.1
  go_enter Try.func39, Try.ntmps39
  go_wp2
  go_loop [4, 5, 8] (fun _ _ i => ∃ k : Nat, k ≤ n ∧ i = .int .i64 k ∧ x ∉ xs.take k) (fun _ _ i => n - (intOf i).toNat)
  case atStart => exact ⟨0, by omega, rfl, by simp⟩
  case round =>
    obtain ⟨k, hk, rfl, hx⟩ := hrel
    by_cases hlt : k < n
    · obtain ⟨b, off, rfl, hb, hc⟩ := h.cells_ (by omega)
      have hc1 := hc k (.int .i64 (xs[k]'(by omega))) (by simp [hl, hlt])
      have hy : xs[k]? = some (xs[k]'(by omega)) := List.getElem?_eq_getElem _
      generalize xs[k]'(by omega) = y at hc1 hy
      have HY := Lib.hid hy
      have HX := Lib.hid hx
      have hlt' : (k : Int) < (n : Int) := by omega
      clear hc hy hx
      cases hxy : (x == y) with
      | true =>
        go_wp2
        go_ret
        exact index_hit (k := k) (by omega) (by
          have := List.mem_of_getElem? HY.out
          rw [beq_iff_eq] at hxy
          rw [hxy]
          simpa using this)
      | false =>
        go_wp2
        go_round
        case rel => exact ⟨k + 1, by omega, by go_num, by
          rw [List.take_add_one, HY.out, List.mem_append]
          rintro (h | h)
          · exact HX.out h
          · rw [beq_eq_false_iff_ne] at hxy
            simp at h
            exact hxy h⟩
        case measure => simp [intOf]; omega
    · have hlt' : ¬ (k : Int) < (n : Int) := by omega
      go_wp2
      go_ret
      exact index_miss (by
        rw [List.take_of_length_le (by omega)] at hx
        simpa using hx)
set_option maxHeartbeats 400000 in
theorem contains_i64 (A : Option Addr) (n c : Nat) (xs : List Int) (x : Int) (w : World) (h : Reads w w.heap.size 1 A n (xs.map (Value.int .i64))) (hn : n ≤ 65536) :
    Calls Try.prog 31 #[.slice A n c, .int .i64 x] w fun e w' => e = .returned (.bool (xs.contains x)) ∧ w = w' := by
  have HI := Lib.hid (index_i64 A n c xs x w h hn)
  clear h
  go_enter Try.func31, Try.ntmps31
  go_wp2_with fail
  refine HI.out.mono ?_
  rintro e w' ⟨i, rfl, hi, h1, h2, rfl⟩
  go_wp2
  go_ret
  exact ⟨ret_bool (by first | simp | (rw [Bool.eq_iff_iff]; simp only [decide_eq_true_eq]; exact hi)), rfl⟩

set_option maxHeartbeats 400000 in
theorem law_has (A : Option Addr) (n c : Nat) (xs : List Int) (x : Int) (w : World) (h : Reads w w.heap.size 1 A n (xs.map (Value.int .u64))) (hn : n ≤ 65536) :
    Calls Try.prog 14 #[.slice A n c, .int .u64 x] w fun e w' => e = .returned (.bool (xs.contains x)) ∧ w = w' := by
  have hl : xs.length = n := by simpa using h.1
  go_enter Try.func14, Try.ntmps14
  go_wp2
  go_loop [4, 6, 9] (fun _ _ i => ∃ k : Nat, k ≤ n ∧ i = .int .i64 k ∧ x ∉ xs.take k) (fun _ _ i => n - (intOf i).toNat)
  case atStart => exact ⟨0, by omega, rfl, by simp⟩
  case round =>
    obtain ⟨k, hk, rfl, hx⟩ := hrel
    by_cases hlt : k < n
    · obtain ⟨b, off, rfl, hb, hc⟩ := h.cells_ (by omega)
      have hc1 := hc k (.int .u64 (xs[k]'(by omega))) (by simp [hl, hlt])
      have hy : xs[k]? = some (xs[k]'(by omega)) := List.getElem?_eq_getElem _
      generalize xs[k]'(by omega) = y at hc1 hy
      have HY := Lib.hid hy
      have HX := Lib.hid hx
      have hlt' : (k : Int) < (n : Int) := by omega
      clear hc hy hx
      cases hxy : (y == x) with
      | true =>
        go_wp2
        go_ret
        exact ⟨ret_bool (by
          have := List.mem_of_getElem? HY.out
          rw [beq_iff_eq] at hxy
          rw [hxy] at this
          simpa using this), rfl⟩
      | false =>
        go_wp2
        go_round
        case rel => exact ⟨k + 1, by omega, by go_num, by
          rw [List.take_add_one, HY.out, List.mem_append]
          rintro (h | h)
          · exact HX.out h
          · rw [beq_eq_false_iff_ne] at hxy
            simp at h
            exact hxy h.symm⟩
        case measure => simp [intOf]; omega
    · have hlt' : ¬ (k : Int) < (n : Int) := by omega
      go_wp2
      go_ret
      exact ⟨ret_bool (by
        rw [List.take_of_length_le (by omega)] at hx
        symm
        simpa using hx), rfl⟩

set_option maxHeartbeats 400000 in
theorem slice_keyed (o : SOp) (w : World) : Calls Try.prog 28 #[opV o] w fun e w' => e = .returned (.bool (keyedP o.kind)) ∧ Below w.heap.size w w' := by
  unfold opV
  have HK := Lib.hid (show keyedP o.kind = (o.kind == 1 || o.kind == 2 || o.kind == 3) from rfl)
  cases h1 : (o.kind == 1) with
  | true =>
    go_enter Try.func28, Try.ntmps28
    go_wp2
    go_ret
    exact ⟨ret_bool (by rw [HK.out, h1]; rfl), (Below.refl _ _).alloc (Nat.le_refl _) _⟩
  | false =>
    cases h2 : (o.kind == 2) with
    | true =>
      go_enter Try.func28, Try.ntmps28
      go_wp2
      go_ret
      exact ⟨ret_bool (by rw [HK.out, h1, h2]; rfl), (Below.refl _ _).alloc (Nat.le_refl _) _⟩
    | false =>
      go_enter Try.func28, Try.ntmps28
      go_wp2
      go_ret
      exact ⟨ret_bool (by rw [HK.out, h1, h2]; rfl), (Below.refl _ _).alloc (Nat.le_refl _) _⟩
end Go.Proofs.Ytoohcnjilmcimaa
