/- The sort of the library at uint64: breakPatternsOrdered, as far as the sort's rightness hangs on it: the range is permuted. -/
import Derived.Test.YtoohcnjilmcimaaSortB
import Derived.Test.YtoohcnjilmcimaaShelf
import Derived.Sort.Walk7
import Derived.Sort.LotD2
namespace Go.Proofs.Ytoohcnjilmcimaa
open Go.RowKit Go.Sort

/-- the row as it now stands, and the generator's cell behind the heap -/
def Rnd (w : World) (blk off : Nat) (d' : Array Int) (R : Nat) (V : World) : Prop := ∃ n, V = grow (putRow (Value.int .u64) (Sort.ahead w n) blk off d') #[.cells #[.int .u64 (R : Int)] 77]
section
variable {w V : World} {R blk off : Nat} {d d' : Array Int}
theorem Rnd.start (h : Holds (Value.int .u64) w blk off d) {z : Int} (hz : z = (R : Int)) : Rnd w blk off d R (w.alloc (.cells #[.int .u64 z] 77)) := by
  subst hz
  exact ⟨0, by rw [alloc_eq_grow, show Sort.ahead w 0 = w from rfl, putRow_self _ _ _ _ _ h]⟩
theorem Rnd.now (h : Rnd w blk off d' R V) (hs : d'.size = d.size) : RowNow w blk off d d' V := by
  obtain ⟨n, rfl⟩ := h
  exact ⟨hs, n, _, rfl⟩
theorem Rnd.cell (h : Rnd w blk off d' R V) : V.cell? ⟨w.heap.size, 0, none⟩ = some (.int .u64 (R : Int)) := by
  obtain ⟨n, rfl⟩ := h
  have hz : (putRow (Value.int .u64) (Sort.ahead w n) blk off d').heap.size = w.heap.size := by simp
  rw [← hz]; exact grow_one_cell _ _ _
theorem Rnd.frozen (h : Rnd w blk off d' R V) : V.frozen? ⟨w.heap.size, 0, none⟩ = false := by
  obtain ⟨n, rfl⟩ := h
  have hz : (putRow (Value.int .u64) (Sort.ahead w n) blk off d').heap.size = w.heap.size := by simp
  rw [← hz]; exact grow_one_frozen _ _ _
theorem Rnd.set_ (h : Rnd w blk off d' R V) (R' q : Nat) : Rnd w blk off d' R' ((V.setCell ⟨w.heap.size, 0, none⟩ (.int .u64 (R' : Int))).drewN q) := by
  obtain ⟨n, rfl⟩ := h
  have hz : (putRow (Value.int .u64) (Sort.ahead w n) blk off d').heap.size = w.heap.size := by simp
  refine ⟨n + q, ?_⟩
  rw [← hz, setCell_grow_one, ← putRow_drewN]
  rfl
theorem Rnd.swap1 (h : Rnd w blk off d' R V) (hb : blk < w.heap.size) (hs : d'.size = d.size) {j k : Nat} {x y : Int} (hj : j < d.size) (hk : k < d.size) (hx : x = d'[j]!) (hy : y = d'[k]!) :
    Rnd w blk off (Sort.swp d' j k) R (((V.setCell ⟨blk, off + j, none⟩ (.int .u64 y)).setCell ⟨blk, off + k, none⟩ (.int .u64 x)).drew) := by
  obtain ⟨n, rfl⟩ := h
  subst hx hy
  refine ⟨n + 1, ?_⟩
  have e := swap_worldA (Value.int .u64) w n 0 blk off d' j k (by omega) (by omega)
  have e' : ((putRow (Value.int .u64) (Sort.ahead w n) blk off d').setCell ⟨blk, off + j, none⟩ (.int .u64 d'[k]!)).setCell ⟨blk, off + k, none⟩ (.int .u64 d'[j]!) = putRow (Value.int .u64) (Sort.ahead w n) blk off (Sort.swp d' j k) := e
  rw [setCell_grow_old _ _ _ _ _ (by simpa using hb), setCell_grow_old _ _ _ _ _ (by simpa using hb), e', drew_grow, ← putRow_drewN]
  rfl
end

set_option maxHeartbeats 1000000 in
/-- the generator's next number, whichever -/
theorem next_u64 (rb ro X : Nat) (hX : X < 18446744073709551616) (V : World) (hc : V.cell? ⟨rb, ro, none⟩ = some (.int .u64 (X : Int))) (hf : V.frozen? ⟨rb, ro, none⟩ = false) :
    Calls Try.prog 55 #[.pointer (some ⟨rb, ro, none⟩)] V fun e V' => ∃ R : Nat, R < 18446744073709551616 ∧ e = .returned (.int .u64 (R : Int)) ∧ V' = (V.setCell ⟨rb, ro, none⟩ (.int .u64 (R : Int))).drewN 3 := by
  obtain ⟨x1, h1⟩ : ∃ n : Nat, n = X ^^^ (X * 8192 % 18446744073709551616) := ⟨_, rfl⟩
  obtain ⟨x2, h2⟩ : ∃ n : Nat, n = x1 ^^^ (x1 / 128) := ⟨_, rfl⟩
  obtain ⟨x3, h3⟩ : ∃ n : Nat, n = x2 ^^^ (x2 * 131072 % 18446744073709551616) := ⟨_, rfl⟩
  have l1 : x1 < 18446744073709551616 := by rw [h1]; exact Nat.xor_lt_two_pow (n := 64) (by omega) (by omega)
  have l2 : x2 < 18446744073709551616 := by rw [h2]; exact Nat.xor_lt_two_pow (n := 64) (by omega) (by omega)
  have l3 : x3 < 18446744073709551616 := by rw [h3]; exact Nat.xor_lt_two_pow (n := 64) (by omega) (by omega)
  have e1 : bits .xor .u64 (X : Int) (IntKind.u64.wrap ((X : Int) * 8192)) = (x1 : Int) := by
    rw [IntKind.wrap_u64, show ((X : Int) * 8192 % 18446744073709551616) = ((X * 8192 % 18446744073709551616 : Nat) : Int) by omega, bits_xor_u64_nat _ _ hX (by omega), h1]
  have e2 : bits .xor .u64 (x1 : Int) ((x1 : Int) / 128) = (x2 : Int) := by
    rw [show ((x1 : Int) / 128) = ((x1 / 128 : Nat) : Int) by omega, bits_xor_u64_nat _ _ l1 (by omega), h2]
  have e3 : bits .xor .u64 (x2 : Int) (IntKind.u64.wrap ((x2 : Int) * 131072)) = (x3 : Int) := by
    rw [IntKind.wrap_u64, show ((x2 : Int) * 131072 % 18446744073709551616) = ((x2 * 131072 % 18446744073709551616 : Nat) : Int) by omega, bits_xor_u64_nat _ _ l2 (by omega), h3]
  have hss : ∀ v v', (V.setCell ⟨rb, ro, none⟩ v).setCell ⟨rb, ro, none⟩ v' = V.setCell ⟨rb, ro, none⟩ v' := setCell_setCell V rb ro
  clear h1 h2 h3
  go_enter Try.func55, Try.ntmps55
  go_wp2
  go_region
  all_goals go_wp2
  all_goals go_region
  all_goals go_wp2
  all_goals go_region
  all_goals go_wp2
  go_ret
  exact ⟨x3, l3, rfl, rfl⟩
set_option maxHeartbeats 1000000 in
theorem power_u64 (n : Nat) (hn : n < 4611686018427387904) (V : World) : Calls Try.prog 54 #[.int .i64 (n : Int)] V fun e w' => e = .returned (.int .u64 ((1 <<< bitsLen n : Nat) : Int)) ∧ w' = V := by
  have hl : ∀ V, Calls Try.prog 37 #[.int .u64 (n : Int)] V fun e w' => e = .returned (.int .i64 (bitsLen n : Nat)) ∧ w' = V := fun V => by
    have h := Try.bits_Len (n : Int) V (by omega) (by omega)
    rwa [Int.toNat_natCast, bitLen_eq _ (by omega)] at h
  have hk : bitsLen n ≤ 62 := (bitsLen_le_iff n 62).2 (by omega)
  have hp := wrap_two_pow (bitsLen n) hk
  have HL := Lib.hid hl
  clear hl
  go_enter Try.func54, Try.ntmps54
  go_wp2_with fail
  refine (HL.out _).mono ?_
  rintro e w' ⟨rfl, rfl⟩
  go_wp2
  go_ret
  exact ⟨rfl, rfl⟩

set_option maxHeartbeats 2000000 in
set_option maxRecDepth 100000 in
theorem break_u64 (blk off cap a b : Nat) (d : Array Int) (w : World) (hH : Holds (Value.int .u64) w blk off d) (hblk : blk < w.heap.size) (hab : a ≤ b) (hb : b ≤ d.size) (hsz : d.size < 4611686018427387904) :
    Calls Try.prog 43 #[.slice (some ⟨blk, off, none⟩) d.size cap, .int .i64 a, .int .i64 b] w fun e w' =>
      e = .returned (.tuple #[]) ∧ ∃ d', RowNow w blk off d d' w' ∧ PermIn a b d d' := by
  have HH := Lib.hid hH
  obtain ⟨L, hL⟩ : ∃ L, L = b - a := ⟨_, rfl⟩
  have eL : (b : Int) - (a : Int) = (L : Int) := by omega
  by_cases h8 : 8 ≤ L
  · obtain ⟨M, hM⟩ : ∃ M : Nat, M = 1 <<< bitsLen L := ⟨_, rfl⟩
    have hM1 : 1 ≤ M := by rw [hM, Nat.one_shiftLeft]; exact Nat.two_pow_pos _
    have hM2 : M ≤ 2 * L := by rw [hM, Nat.one_shiftLeft]; exact two_pow_bitsLen_le (by omega)
    have hNP := Lib.hid (show ∀ V, Calls Try.prog 54 #[.int .i64 (L : Int)] V fun e w' => e = .returned (.int .u64 (M : Int)) ∧ w' = V from by rw [hM]; exact fun V => power_u64 L (by omega) V)
    have hST := Lib.hid (fun (z : Int) (hz : z = (L : Int)) => Rnd.start (R := L) hH hz)
    have HL := Lib.hid hL
    clear hM hH hL
    go_enter Try.func43, Try.ntmps43
    go_wp2_with fail
    refine (hNP.out _).mono ?_
    rintro e w' ⟨rfl, rfl⟩
    obtain ⟨lo, hlo⟩ : ∃ lo : Nat, lo = a + L / 4 * 2 - 1 := ⟨_, rfl⟩
    have e1 : (a : Int) + (L : Int) / 4 * 2 - 1 = (lo : Int) := by omega
    have e2 : (a : Int) + (L : Int) / 4 * 2 + 1 = (lo : Int) + 2 := by omega
    have hlo1 : a ≤ lo := by omega
    have hlo2 : lo + 2 < a + L := by omega
    clear hlo
    go_wp2
    go_loopw [9, 10] (fun vi _ wr => ∃ (p R : Nat) (dk : Array Int), vi = .int .i64 p ∧ lo ≤ p ∧ p ≤ lo + 3 ∧ R < 18446744073709551616 ∧ dk.size = d.size ∧ Hid (Rnd w blk off dk R wr) ∧ Hid (PermIn a b d dk)) (fun vi _ _ => lo + 3 - (intOf vi).toNat)
    case atStart => exact ⟨lo, L, d, rfl, by omega, by omega, by omega, rfl, Lib.hid (hST.out _ rfl), Lib.hid (permIn_refl _ _ _)⟩
    case round =>
      obtain ⟨p, R, dk, rfl, hp1, hp2, hR, hsk, HR, HP⟩ := hrel
      by_cases hp3 : p ≤ lo + 2
      · have hp3' : (p : Int) ≤ (lo : Int) + 2 := by omega
        have HN := Lib.hid (next_u64 w.heap.size 0 R hR wr HR.out.cell HR.out.frozen)
        go_wp2_with fail
        refine HN.out.mono ?_
        rintro e w' ⟨R', hR', rfl, rfl⟩
        obtain ⟨V, hV⟩ : ∃ V : World, V = (wr.setCell ⟨w.heap.size, 0, none⟩ (.int .u64 (R' : Int))).drewN 3 := ⟨_, rfl⟩
        have HV := Lib.hid (show Rnd w blk off dk R' V from hV ▸ HR.out.set_ R' 3)
        rw [← hV]
        obtain ⟨O, hO⟩ : ∃ O : Nat, O = R' &&& (M - 1) := ⟨_, rfl⟩
        have lO : O ≤ M - 1 := by rw [hO]; exact Nat.and_le_right
        have eAnd : bits .and .u64 (R' : Int) ((M : Int) - 1) = (O : Int) := by
          rw [show ((M : Int) - 1) = ((M - 1 : Nat) : Int) by omega, bits_and_u64_nat _ _ hR' (by omega), hO]
        obtain ⟨G, hG⟩ : ∃ G : Nat → Int, ∀ t, G t = dk[t]! := ⟨fun t => dk[t]!, fun _ => rfl⟩
        have hcw : ∀ t, t < d.size → V.cell? ⟨blk, off + t, none⟩ = some (.int .u64 (G t)) := fun t ht => by rw [hG]; exact (HV.out.now hsk).cell hblk HH.out ht
        have hfw : ∀ t, t < d.size → V.frozen? ⟨blk, off + t, none⟩ = false := fun t ht => (HV.out.now hsk).frozen hblk HH.out ht
        have HG := Lib.hid hG
        clear hG hV hO HN HR
        by_cases hLO : L ≤ O
        · have hLO' : (L : Int) ≤ (O : Int) := by omega
          obtain ⟨q, hq⟩ : ∃ q : Nat, q = a + (O - L) := ⟨_, rfl⟩
          have eq : (a : Int) + ((O : Int) - (L : Int)) = (q : Int) := by omega
          have hqb : a ≤ q ∧ q < a + L := by omega
          clear hq
          by_cases hpq : p = q
          all_goals
            (try subst hpq)
            go_wp2_with fail
            go_region
            go_wp2
            go_roundw
            case rel => exact ⟨p + 1, R', _, by go_num, by omega, by omega, hR', by rw [size_swp]; exact hsk, Lib.hid (HV.out.swap1 hblk hsk (by omega) (by omega) (HG.out _) (HG.out _)), Lib.hid (permIn_trans _ _ _ _ _ HP.out (swp_permIn _ _ _ _ _ (by omega) (by have := HL.out; omega) (by omega) (by have := HL.out; omega) (by omega)))⟩
            case measure => simp [intOf]; omega
        · have hLO' : ¬ (L : Int) ≤ (O : Int) := by omega
          obtain ⟨q, hq⟩ : ∃ q : Nat, q = a + O := ⟨_, rfl⟩
          have eq : (a : Int) + (O : Int) = (q : Int) := by omega
          have hqb : a ≤ q ∧ q < a + L := by omega
          clear hq
          by_cases hpq : p = q
          all_goals
            (try subst hpq)
            go_wp2_with fail
            go_region
            go_wp2
            go_roundw
            case rel => exact ⟨p + 1, R', _, by go_num, by omega, by omega, hR', by rw [size_swp]; exact hsk, Lib.hid (HV.out.swap1 hblk hsk (by omega) (by omega) (HG.out _) (HG.out _)), Lib.hid (permIn_trans _ _ _ _ _ HP.out (swp_permIn _ _ _ _ _ (by omega) (by have := HL.out; omega) (by omega) (by have := HL.out; omega) (by omega)))⟩
            case measure => simp [intOf]; omega
      · have hp3' : ¬ (p : Int) ≤ (lo : Int) + 2 := by omega
        go_wp2
        go_end0
        exact ⟨rfl, dk, HR.out.now hsk, HP.out⟩
  · have h8' : ¬ (8 : Int) ≤ (L : Int) := by omega
    have HS := Lib.hid (RowNow.start hH)
    clear hH
    go_enter Try.func43, Try.ntmps43
    go_wp2
    go_end0
    exact ⟨rfl, d, HS.out, permIn_refl _ _ _⟩
end Go.Proofs.Ytoohcnjilmcimaa
