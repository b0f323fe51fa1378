/- Figures of base 16: strconv.FormatUint(n, 16) and words.Hex by their contracts. -/
import Derived.Test.YtgpkekdbohdbfaaGreatDoorTexts
import Derived.Test.YtgpkekdbohdbfaaGreatDoorHexP
import Derived.WalkKit
import Derived.WalkSpells
import Derived.WalkLawsBesides
import Derived.Laws.IdiomStrings
import Derived.Outline
namespace Go.Proofs.YtgpkekdbohdbfaaGreatDoor
open Go.RowKit

theorem hexTab (m : Nat) (h : m < 16) (h' : m < (⟨#[48, 49, 50, 51, 52, 53, 54, 55, 56, 57, 97, 98, 99, 100, 101, 102, 103, 104, 105, 106, 107, 108, 109, 110, 111, 112, 113, 114, 115, 116, 117, 118, 119, 120, 121, 122]⟩ : ByteArray).size) : ((⟨#[48, 49, 50, 51, 52, 53, 54, 55, 56, 57, 97, 98, 99, 100, 101, 102, 103, 104, 105, 106, 107, 108, 109, 110, 111, 112, 113, 114, 115, 116, 117, 118, 119, 120, 121, 122]⟩ : ByteArray)[m]'h').toNat = (hexD m).toNat := by
  exact match m, h, h' with
  | 0, _, _ => rfl
  | 1, _, _ => rfl
  | 2, _, _ => rfl
  | 3, _, _ => rfl
  | 4, _, _ => rfl
  | 5, _, _ => rfl
  | 6, _, _ => rfl
  | 7, _, _ => rfl
  | 8, _, _ => rfl
  | 9, _, _ => rfl
  | 10, _, _ => rfl
  | 11, _, _ => rfl
  | 12, _, _ => rfl
  | 13, _, _ => rfl
  | 14, _, _ => rfl
  | 15, _, _ => rfl
  | k + 16, hk, _ => absurd hk (by omega)

/-- the loop's state: what is still to be told, and what is told -/
structure Fmt16 (w wr : World) (n u : Nat) (done : List UInt8) (cs : Array Value) : Prop where
  len : done.length ≤ 15
  lt : u < 16 ^ (16 - done.length)
  eq : hexF (16 - done.length) u ++ done = hexs n
  blk : Blk wr w.heap.size 156 cs
  size : cs.size = 65
  cells : cs.toList.drop (65 - done.length) = done.map (fun b => Value.int .u8 (b.toNat : Int))
  below : Below w.heap.size w wr

theorem Fmt16.cell {w wr : World} {n u : Nat} {done : List UInt8} {cs : Array Value} (h : Fmt16 w wr n u done cs) {i : Nat} (hi : i < 65) : ∃ v, wr.cell? ⟨w.heap.size, i, none⟩ = some v := by
  rw [h.blk.cell]
  exact ⟨cs[i]'(by rw [h.size]; exact hi), Array.getElem?_eq_getElem _⟩
theorem Fmt16.lay {w wr : World} {n u : Nat} {done : List UInt8} {cs : Array Value} (h : Fmt16 w wr n u done cs) {i : Nat} (hi : 65 - done.length = i + 1) (b : UInt8) :
    Blk (wr.setCell ⟨w.heap.size, i, none⟩ (.int .u8 (b.toNat : Int))) w.heap.size 156 (cs.setIfInBounds i (.int .u8 (b.toNat : Int))) ∧
    (cs.setIfInBounds i (.int .u8 (b.toNat : Int))).toList.drop i = (b :: done).map (fun b => Value.int .u8 (b.toNat : Int)) ∧ Below w.heap.size w (wr.setCell ⟨w.heap.size, i, none⟩ (.int .u8 (b.toNat : Int))) := by
  have hsz := h.size
  have hl := h.len
  refine ⟨h.blk.set_ i _, ?_, h.below.setCell (p := ⟨w.heap.size, i, none⟩) (Nat.le_refl _) _⟩
  have hil : i < cs.toList.length := by simp; omega
  rw [Array.toList_setIfInBounds, List.drop_eq_getElem_cons (by simpa using hil)]
  rw [List.getElem_set_self, List.map_cons]
  congr 1
  rw [List.drop_set_of_lt (by omega), ← hi]
  exact h.cells
theorem Fmt16.next {w wr : World} {n u : Nat} {done : List UInt8} {cs : Array Value} (h : Fmt16 w wr n u done cs) (hu : 16 ≤ u) {i : Nat} (hi : 65 - done.length = i + 1) :
    Fmt16 w (wr.setCell ⟨w.heap.size, i, none⟩ (.int .u8 ((hexD (u % 16)).toNat : Int))) n (u / 16) (hexD (u % 16) :: done) (cs.setIfInBounds i (.int .u8 ((hexD (u % 16)).toNat : Int))) := by
  obtain ⟨h1, h2, h3⟩ := h.lay hi (hexD (u % 16))
  have hl : done.length < 15 := by
    rcases Nat.lt_or_ge done.length 15 with q | q
    · exact q
    · have e : 16 - done.length = 1 := by have := h.len; omega
      have := h.lt
      rw [e] at this
      omega
  obtain ⟨f, hf⟩ : ∃ f, 16 - done.length = f + 1 := ⟨15 - done.length, by omega⟩
  have hf' : 16 - (hexD (u % 16) :: done).length = f := by rw [List.length_cons]; omega
  refine ⟨by rw [List.length_cons]; omega, ?_, ?_, h1, by simpa using h.size, ?_, h3⟩
  · rw [hf']
    have := h.lt
    rw [hf, Nat.pow_succ] at this
    exact Nat.div_lt_of_lt_mul (by rw [Nat.mul_comm]; exact this)
  · rw [hf', ← h.eq, hf, hexF_big f u hu]
    simp
  · have e : 65 - (hexD (u % 16) :: done).length = i := by rw [List.length_cons]; omega
    rw [e]; exact h2
theorem Fmt16.last {w wr : World} {n u : Nat} {done : List UInt8} {cs : Array Value} (h : Fmt16 w wr n u done cs) (hu : u < 16) {i : Nat} (hi : 65 - done.length = i + 1) :
    hexs n = hexD u :: done ∧ (hexs n).length = 65 - i ∧ (∀ j (hj : j < (hexs n).length), (wr.setCell ⟨w.heap.size, i, none⟩ (.int .u8 ((hexD u).toNat : Int))).cell? ((⟨w.heap.size, i, none⟩ : Addr).add j) = some (.int .u8 ((hexs n)[j].toNat : Int))) ∧
    Below w.heap.size w (wr.setCell ⟨w.heap.size, i, none⟩ (.int .u8 ((hexD u).toNat : Int))) := by
  obtain ⟨h1, h2, h3⟩ := h.lay hi (hexD u)
  have e : hexs n = hexD u :: done := by rw [← h.eq, hexF_small _ _ hu]; rfl
  have hl := h.len
  refine ⟨e, by rw [e, List.length_cons]; omega, fun j hj => ?_, h3⟩
  have hadd : (⟨w.heap.size, i, none⟩ : Addr).add j = ⟨w.heap.size, i + j, none⟩ := by unfold Addr.add; split <;> simp_all
  rw [hadd, h1.cell]
  have h4 : ((cs.setIfInBounds i (.int .u8 ((hexD u).toNat : Int))).toList.drop i)[j]? = some (.int .u8 ((hexs n)[j].toNat : Int)) := by
    rw [h2]
    simp only [← e, List.getElem?_map]
    rw [List.getElem?_eq_getElem hj]
    rfl
  rw [List.getElem?_drop] at h4
  rw [← Array.getElem?_toList]
  exact h4
theorem Fmt16.start (w : World) (n : Nat) (hn : n < 18446744073709551616) (cs : Array Value) (hc : cs.size = 65) : Fmt16 w (w.alloc (.cells cs 156)) n n [] cs :=
  ⟨by simp, by simpa using hn, by simp [hexs], Blk.new _ _ _, hc, by rw [List.drop_eq_nil_of_le (by simp [hc])]; rfl, (Below.refl _ _).alloc (Nat.le_refl _) _⟩

set_option maxHeartbeats 400000 in
set_option maxRecDepth 100000 in
theorem tz16 (w : World) (hT : w.cell? ⟨26, 15, none⟩ = some (.int .u8 4)) :
    Calls Tryz.prog 84 #[.int .u64 16] w fun e w' => e = .returned (.int .i64 4) ∧ w = w' := by
  have hT' : w.cell? ⟨26, (IntKind.u64.wrap (bits BinOp.and IntKind.u64 16 (IntKind.u64.wrap (-16)) * 285870213051353865) / 288230376151711744).toNat, none⟩ = some (.int .u8 4) := by
    have : (IntKind.u64.wrap (bits BinOp.and IntKind.u64 16 (IntKind.u64.wrap (-16)) * 285870213051353865) / 288230376151711744).toNat = 15 := by decide
    rw [this]; exact hT
  clear hT
  go_enter Tryz.func84, Tryz.ntmps84
  go_wp2
  go_ret
  exact ⟨rfl, rfl⟩

theorem slice65 (W : World) (b i : Nat) (h : i ≤ 64) : (Instr.sliceAt 156 (.pointer (some ⟨b, 0, none⟩)) (some (.int .i64 (i : Int))) none none).run Tryz.prog W = .ok (.slice (some ⟨b, i, none⟩) (65 - i) (65 - i)) W := by
  have ha : Tryz.prog.arrayLen 156 = 65 := by kernel_rfl
  have hu : Tryz.prog.underlying 156 = some (.array (Tryz.prog.arrayLen 156) (Tryz.prog.elem 156)) := by kernel_rfl
  have hs : ∀ w, (sizeOf (Tryz.prog.elem 156)).run Tryz.prog w = .ok 1 w := fun w => by kernel_rfl
  rw [run_sliceAt_array_l W 156 ⟨b, 0, none⟩ hu .i64 i (by omega) (by rw [ha]; omega), hs]
  simp only [Result.andThen_ok, slicedAt, ha, Int.toNat_natCast]
  rw [if_neg (by omega)]
  by_cases h0 : i = 0
  · subst h0; rfl
  · simp [Addr.add, h0]

set_option maxHeartbeats 1000000 in
set_option maxRecDepth 100000 in
theorem formatBits16 (n : Nat) (hn : n < 18446744073709551616) (w : World) (hT : w.cell? ⟨26, 15, none⟩ = some (.int .u8 4)) :
    Calls Tryz.prog 79 #[.slice none 0 0, .int .u64 n, .int .i64 16, .bool false, .bool false] w fun e w' => ∃ v, e = .returned (.tuple #[v, strV (hexs n)]) ∧ Below w.heap.size w w' := by
  have hT1 : ∀ o, (w.alloc o).cell? ⟨26, 15, none⟩ = some (.int .u8 4) := fun o => (World.cell?_alloc_lt w o _ (World.block_lt_of_cell? w _ hT)).trans hT
  have HT1 := Lib.hid hT1
  clear hT1
  have hp2 : (bits BinOp.and IntKind.i64 16 15 == 0) = true := by decide
  go_enter Tryz.func79, Tryz.ntmps79
  go_wp2_with (first | (go_at_call 84; refine (tz16 _ (HT1.out _)).mono ?_; rintro e w' ⟨rfl, rfl⟩) | go_in)
  go_loopw [1, 13] (fun vu vi wr => ∃ (u : Nat) (done : List UInt8) (cs : Array Value), vu = .int .u64 u ∧ vi = .int .i64 ((65 - done.length : Nat) : Int) ∧ Fmt16 w wr n u done cs) (fun vu _ _ => (intOf vu).toNat)
  case atStart => exact ⟨n, [], _, rfl, rfl, Fmt16.start w n hn _ (by kernel_rfl)⟩
  case round =>
    obtain ⟨u, done, cs, rfl, rfl, h⟩ := hrel
    have hu64 : u < 18446744073709551616 := by
      have h1 := h.lt
      have h2 : 16 ^ (16 - done.length) ≤ 16 ^ 16 := Nat.pow_le_pow_right (by omega) (by omega)
      have h3 : (16 : Nat) ^ 16 = 18446744073709551616 := by decide
      omega
    have hdl := h.len
    obtain ⟨i, hi⟩ : ∃ i, 65 - done.length = i + 1 := ⟨64 - done.length, by omega⟩
    have hil : i ≤ 64 := by omega
    have Hi := Lib.hid hi
    have hf := h.blk.frozen i
    obtain ⟨v0, hc⟩ := h.cell (i := i) (by omega)
    rw [hi]
    clear hi
    by_cases h16 : 16 ≤ u
    · have hand : bits BinOp.and IntKind.u64 (u : Int) 15 = ((u % 16 : Nat) : Int) := by
        have := u64_and_nat u 15 hu64 (by omega)
        rw [show (15 : Nat) = 2 ^ 4 - 1 from rfl, Nat.and_two_pow_sub_one_eq_mod] at this
        exact this
      have hm : u % 16 < 16 := Nat.mod_lt _ (by omega)
      have htab := hexTab (u % 16) hm (by show u % 16 < 36; omega)
      have hN := h.next h16 Hi.out
      clear h
      go_wp2
      go_roundw
      case rel => exact ⟨u / 16, _, _, rfl, by rw [List.length_cons]; have := Hi.out; rw [show 65 - (done.length + 1) = i by omega], hN⟩
      case measure => simp [intOf]; omega
    · have htab := hexTab u (by omega) (by show u < 36; omega)
      obtain ⟨e1, e2, e3, e4⟩ := h.last (by omega) Hi.out
      have hconv := run_convert_bytes_back (P := Tryz.prog) (wr.setCell ⟨w.heap.size, i, none⟩ (.int .u8 ((hexD u).toNat : Int))) 81 9 5 ⟨w.heap.size, i, none⟩ (65 - i) (hexs n) Tryz.underlying81 Tryz.underlying5 Tryz.underlying9 e3
      rw [e2] at hconv
      have hsl : ∀ W, (Instr.sliceAt 156 (.pointer (some ⟨w.heap.size, 0, none⟩)) (some (.int .i64 (i : Int))) none none).run Tryz.prog W = .ok (.slice (some ⟨w.heap.size, i, none⟩) (65 - i) (65 - i)) W := fun W => slice65 W w.heap.size i hil
      have E1 := Lib.hid e1
      clear h e1 e2 e3
      go_wp2
      go_ret2
      first | exact ⟨_, rfl, e4⟩ | exact ⟨⟨_, rfl⟩, e4⟩

end Go.Proofs.YtgpkekdbohdbfaaGreatDoor
