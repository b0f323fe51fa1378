/- amblerlaw30.WordsNumbers: its walk: whatever the word and the bound, true. -/
import Derived.Test.YtienlohogdkedaaDoorLaw30a
import Derived.Test.YtienlohogdkedaaDoorDecL
import Derived.Test.YtienlohogdkedaaDoorDecR
namespace Go.Proofs.YtienlohogdkedaaDoor
open Go.RowKit AmD

/-- the reference's two cases, and what the program makes of them -/
def IsHexWord (s : ByteArray) : Prop := 2 < s.size ∧ s.extract 0 2 = ⟨#[48, 120]⟩
theorem hexWord_prefix {s : ByteArray} (h : IsHexWord s) : ∃ r, s.data.toList = 48 :: 120 :: r := by
  have e := ext2 s
  rw [h.2] at e
  have hl : s.data.toList.length = s.size := by simp
  refine ⟨s.data.toList.drop 2, ?_⟩
  have := List.take_append_drop 2 s.data.toList
  rw [← e] at this
  exact this.symm
theorem numOf_hex {s : ByteArray} (h : IsHexWord s) : numOf s.data.toList = hex (s.data.toList.drop 2) ∧ dec s.data.toList = none := by
  obtain ⟨r, hr⟩ := hexWord_prefix h
  rw [hr]
  refine ⟨by simp [numOf, Lib.hasPrefix, Lib.trimPrefix, List.isPrefixOf], ?_⟩
  exact dec_bad (l := 48 :: 120 :: r) (k := 1) (by simp) (by show isDig 120 = false; decide)
theorem numOf_dec {s : ByteArray} (h : ¬ IsHexWord s) : numOf s.data.toList = dec s.data.toList := by
  unfold numOf
  cases hp : Lib.hasPrefix s.data.toList [48, 120] with
  | false => simp
  | true =>
    have hl : s.data.toList.length = s.size := by simp
    obtain ⟨r, hr⟩ : ∃ r, s.data.toList = 48 :: 120 :: r := by
      unfold Lib.hasPrefix at hp
      rw [List.isPrefixOf_iff_prefix] at hp
      obtain ⟨r, hr⟩ := hp
      exact ⟨r, hr.symm⟩
    have hz : r = [] := by
      apply Classical.byContradiction
      intro hne
      have hlen : 0 < r.length := List.length_pos_iff.2 hne
      apply h
      refine ⟨by rw [hr] at hl; simp at hl; omega, ?_⟩
      have e := ext2 s
      rw [hr] at e
      apply ByteArray.ext
      exact Array.toList_inj.1 e
    subst hz
    rw [hr]
    have e1 : dec [48, 120] = none := dec_bad (l := [48, 120]) (k := 1) (by simp) (by decide)
    rw [e1]
    simp [Lib.trimPrefix, Lib.hasPrefix, hex]

set_option maxHeartbeats 1000000 in
set_option maxRecDepth 100000 in
theorem numbers_huge {E : Nat → Addr} (s : ByteArray) (most : Int) (w : World) (hE : LibIn E w) (hs : 200 < s.size) : Calls Tryd.prog 8 #[.string s, .int .i64 most] w (LawTrue w) := by
  have b1 : (200 : Int) < (s.size : Int) := by omega
  go_enter Tryd.func8, Tryd.ntmps8
  go_wp2_with (go_at_call 35; refine (alive30 _ hE.lib).mono ?_; rintro e w1 ⟨rfl, hb1⟩)
  go_ret
  exact ⟨rfl, hb1⟩

/-- the five calls' frames, joined -/
theorem nb5 {w w1 w2 w3 w4 w5 : World} (h1 : Below w.heap.size w w1) (h2 : Below w1.heap.size w1 w2) (h3 : Below w2.heap.size w2 w3) (h4 : Below w3.heap.size w3 w4) (h5 : Below w4.heap.size w4 w5) : Below w.heap.size w w5 := by
  have s1 := h1.size
  have s2 := h2.size
  have s3 := h3.size
  have s4 := h4.size
  exact h1.trans ((h2.mono s1).trans ((h3.mono (by omega)).trans ((h4.mono (by omega)).trans (h5.mono (by omega)))))
theorem nb6 {w w1 w2 w3 w4 w5 w6 : World} (h1 : Below w.heap.size w w1) (h2 : Below w1.heap.size w1 w2) (h3 : Below w2.heap.size w2 w3) (h4 : Below w3.heap.size w3 w4) (h5 : Below w4.heap.size w4 w5) (h6 : Below w5.heap.size w5 w6) : Below w.heap.size w w6 :=
  (nb5 h1 h2 h3 h4 h5).trans (h6.mono (by have := h1.size; have := h2.size; have := h3.size; have := h4.size; have := h5.size; omega))

/-- the calls of the law, as hidden contracts -/
structure Calls30c (E : Nat → Addr) (s : ByteArray) (most : Int) (nv : Nat) (nerr : Nat) (rv : Nat) (ten is : Bool) (sv : Int) (serr : Nat) : Prop where
  alive : ∀ W, LibIn E W → Calls Tryd.prog 35 #[] W fun e w' => e = .returned (.bool true) ∧ Below W.heap.size W w'
  number : ∀ W, NumsIn E W → Calls Tryd.prog 39 #[.string s] W fun e w' => e = .returned (.tuple #[.int .u64 nv, errV E nerr]) ∧ Below W.heap.size W w'
  ref : ∀ W, Calls Tryd.prog 40 #[.string s] W fun e w' => e = .returned (.tuple #[.int .u64 rv, .bool ten, .bool is]) ∧ Below W.heap.size W w'
  small : ∀ W, NumsIn E W → ErrAt E W 1 → Calls Tryd.prog 41 #[.string s, .int .i64 most] W fun e w' => e = .returned (.tuple #[.int .i64 sv, errV E serr]) ∧ Below W.heap.size W w'

set_option maxHeartbeats 2000000 in
set_option maxRecDepth 100000 in
/-- no number of base 10, but one of base 16 -/
theorem numbers_hex_some {E : Nat → Addr} (s : ByteArray) (most : Int) (n : Nat) (w : World) (hE : LibIn E w) (hN0 : NumsIn E w) (hs : s.size ≤ 200) (hC : Calls30c E s most n 0 n false true 0 13) :
    Calls Tryd.prog 8 #[.string s, .int .i64 most] w (LawTrue w) := by
  have b1 : ¬ (200 : Int) < (s.size : Int) := by omega
  go_enter Tryd.func8, Tryd.ntmps8
  go_wp2_with fail
  refine (hC.alive _ hE).mono ?_
  rintro e w1 ⟨rfl, hb1⟩
  have hE1 := hE.below hb1 (Nat.le_refl _)
  have hN1 := hN0.below hb1 (Nat.le_refl _)
  go_wp2_with fail
  refine (hC.number _ hN1).mono ?_
  rintro e w2 ⟨rfl, hb2⟩
  have hE2 := hE1.below hb2 (Nat.le_refl _)
  have hN2 := hN1.below hb2 (Nat.le_refl _)
  go_wp2_with fail
  refine (hC.ref _).mono ?_
  rintro e w3 ⟨rfl, hb3⟩
  have hE3 := hE2.below hb3 (Nat.le_refl _)
  have hN3 := hN2.below hb3 (Nat.le_refl _)
  go_wp2_with fail
  refine (num_any hE3.errs 0 (by omega)).mono ?_
  rintro e w4 ⟨rfl, hb4⟩
  have hE4 := hE3.below hb4 (Nat.le_refl _)
  have hN4 := hN3.below hb4 (Nat.le_refl _)
  go_wp2_with fail
  refine (hC.small _ hN4 (hE4.errs.at_ 1 (by omega) (by omega))).mono ?_
  rintro e w5 ⟨rfl, hb5⟩
  have hE5 := hE4.below hb5 (Nat.le_refl _)
  go_wp2_with fail
  refine (num_any hE5.errs 13 (by omega)).mono ?_
  rintro e w6 ⟨rfl, hb6⟩
  go_wp2
  go_ret
  exact ⟨rfl, nb6 hb1 hb2 hb3 hb4 hb5 hb6⟩

set_option maxHeartbeats 2000000 in
set_option maxRecDepth 100000 in
/-- no number of either base, with the prefix -/
theorem numbers_hex_none {E : Nat → Addr} (s : ByteArray) (most : Int) (w : World) (hE : LibIn E w) (hN0 : NumsIn E w) (hs : s.size ≤ 200) (hC : Calls30c E s most 0 13 0 false false 0 13) :
    Calls Tryd.prog 8 #[.string s, .int .i64 most] w (LawTrue w) := by
  have b1 : ¬ (200 : Int) < (s.size : Int) := by omega
  go_enter Tryd.func8, Tryd.ntmps8
  go_wp2_with fail
  refine (hC.alive _ hE).mono ?_
  rintro e w1 ⟨rfl, hb1⟩
  have hE1 := hE.below hb1 (Nat.le_refl _)
  have hN1 := hN0.below hb1 (Nat.le_refl _)
  go_wp2_with fail
  refine (hC.number _ hN1).mono ?_
  rintro e w2 ⟨rfl, hb2⟩
  have hE2 := hE1.below hb2 (Nat.le_refl _)
  have hN2 := hN1.below hb2 (Nat.le_refl _)
  go_wp2_with fail
  refine (hC.ref _).mono ?_
  rintro e w3 ⟨rfl, hb3⟩
  have hE3 := hE2.below hb3 (Nat.le_refl _)
  have hN3 := hN2.below hb3 (Nat.le_refl _)
  go_wp2_with fail
  refine (num_any hE3.errs 13 (by omega)).mono ?_
  rintro e w4 ⟨rfl, hb4⟩
  have hE4 := hE3.below hb4 (Nat.le_refl _)
  have hN4 := hN3.below hb4 (Nat.le_refl _)
  go_wp2_with fail
  refine (hC.small _ hN4 (hE4.errs.at_ 1 (by omega) (by omega))).mono ?_
  rintro e w5 ⟨rfl, hb5⟩
  have hE5 := hE4.below hb5 (Nat.le_refl _)
  go_wp2_with fail
  refine (num_any hE5.errs 13 (by omega)).mono ?_
  rintro e w6 ⟨rfl, hb6⟩
  go_wp2
  go_ret
  exact ⟨rfl, nb6 hb1 hb2 hb3 hb4 hb5 hb6⟩

set_option maxHeartbeats 2000000 in
set_option maxRecDepth 100000 in
/-- no number of either base -/
theorem numbers_dec_none {E : Nat → Addr} (s : ByteArray) (most : Int) (w : World) (hE : LibIn E w) (hN0 : NumsIn E w) (hs : s.size ≤ 200) (hA : ∀ W, LibIn E W → Calls Tryd.prog 35 #[] W fun e w' => e = .returned (.bool true) ∧ Below W.heap.size W w')
    (hB : ∀ W, NumsIn E W → Calls Tryd.prog 39 #[.string s] W fun e w' => e = .returned (.tuple #[.int .u64 0, errV E 13]) ∧ Below W.heap.size W w')
    (hR : ∀ W, Calls Tryd.prog 40 #[.string s] W (Ref10Post W none))
    (hS : ∀ W, NumsIn E W → ErrAt E W 1 → Calls Tryd.prog 41 #[.string s, .int .i64 most] W fun e w' => e = .returned (.tuple #[.int .i64 0, errV E 13]) ∧ Below W.heap.size W w') :
    Calls Tryd.prog 8 #[.string s, .int .i64 most] w (LawTrue w) := by
  have b1 : ¬ (200 : Int) < (s.size : Int) := by omega
  go_enter Tryd.func8, Tryd.ntmps8
  go_wp2_with fail
  refine (hA _ hE).mono ?_
  rintro e w1 ⟨rfl, hb1⟩
  have hE1 := hE.below hb1 (Nat.le_refl _)
  have hN1 := hN0.below hb1 (Nat.le_refl _)
  go_wp2_with fail
  refine (hB _ hN1).mono ?_
  rintro e w2 ⟨rfl, hb2⟩
  have hE2 := hE1.below hb2 (Nat.le_refl _)
  have hN2 := hN1.below hb2 (Nat.le_refl _)
  go_wp2_with fail
  refine (hR _).mono ?_
  rintro e w3 ⟨m, rfl, hb3⟩
  have hE3 := hE2.below hb3 (Nat.le_refl _)
  have hN3 := hN2.below hb3 (Nat.le_refl _)
  go_wp2_with fail
  refine (num_any hE3.errs 13 (by omega)).mono ?_
  rintro e w4 ⟨rfl, hb4⟩
  have hE4 := hE3.below hb4 (Nat.le_refl _)
  have hN4 := hN3.below hb4 (Nat.le_refl _)
  go_wp2_with fail
  refine (hS _ hN4 (hE4.errs.at_ 1 (by omega) (by omega))).mono ?_
  rintro e w5 ⟨rfl, hb5⟩
  have hE5 := hE4.below hb5 (Nat.le_refl _)
  go_wp2_with fail
  refine (num_any hE5.errs 13 (by omega)).mono ?_
  rintro e w6 ⟨rfl, hb6⟩
  go_wp2
  go_ret
  exact ⟨rfl, nb6 hb1 hb2 hb3 hb4 hb5 hb6⟩

set_option maxHeartbeats 2000000 in
set_option maxRecDepth 100000 in
/-- a number of base 10, and a bound below 0 -/
theorem numbers_dec_neg {E : Nat → Addr} (s : ByteArray) (most : Int) (n : Nat) (w : World) (hE : LibIn E w) (hN0 : NumsIn E w) (hs : s.size ≤ 200) (hm : most < 0) (hC : Calls30c E s most n 0 n true true 0 1) :
    Calls Tryd.prog 8 #[.string s, .int .i64 most] w (LawTrue w) := by
  have b1 : ¬ (200 : Int) < (s.size : Int) := by omega
  go_enter Tryd.func8, Tryd.ntmps8
  go_wp2_with fail
  refine (hC.alive _ hE).mono ?_
  rintro e w1 ⟨rfl, hb1⟩
  have hE1 := hE.below hb1 (Nat.le_refl _)
  have hN1 := hN0.below hb1 (Nat.le_refl _)
  go_wp2_with fail
  refine (hC.number _ hN1).mono ?_
  rintro e w2 ⟨rfl, hb2⟩
  have hE2 := hE1.below hb2 (Nat.le_refl _)
  have hN2 := hN1.below hb2 (Nat.le_refl _)
  go_wp2_with fail
  refine (hC.ref _).mono ?_
  rintro e w3 ⟨rfl, hb3⟩
  have hE3 := hE2.below hb3 (Nat.le_refl _)
  have hN3 := hN2.below hb3 (Nat.le_refl _)
  go_wp2_with fail
  refine (num_any hE3.errs 0 (by omega)).mono ?_
  rintro e w4 ⟨rfl, hb4⟩
  have hE4 := hE3.below hb4 (Nat.le_refl _)
  have hN4 := hN3.below hb4 (Nat.le_refl _)
  go_wp2_with fail
  refine (hC.small _ hN4 (hE4.errs.at_ 1 (by omega) (by omega))).mono ?_
  rintro e w5 ⟨rfl, hb5⟩
  have hE5 := hE4.below hb5 (Nat.le_refl _)
  go_wp2_with fail
  refine (num_any hE5.errs 1 (by omega)).mono ?_
  rintro e w6 ⟨rfl, hb6⟩
  go_wp2
  go_ret
  exact ⟨rfl, nb6 hb1 hb2 hb3 hb4 hb5 hb6⟩

set_option maxHeartbeats 2000000 in
set_option maxRecDepth 100000 in
/-- a number of base 10 beyond the bound -/
theorem numbers_dec_great {E : Nat → Addr} (s : ByteArray) (most : Int) (n : Nat) (w : World) (hE : LibIn E w) (hN0 : NumsIn E w) (hs : s.size ≤ 200) (hm : ¬ most < 0) (hgt : most < (n : Int)) (hcv : IntKind.u64.wrap most = most) (hC : Calls30c E s most n 0 n true true 0 1) :
    Calls Tryd.prog 8 #[.string s, .int .i64 most] w (LawTrue w) := by
  have b1 : ¬ (200 : Int) < (s.size : Int) := by omega
  go_enter Tryd.func8, Tryd.ntmps8
  go_wp2_with fail
  refine (hC.alive _ hE).mono ?_
  rintro e w1 ⟨rfl, hb1⟩
  have hE1 := hE.below hb1 (Nat.le_refl _)
  have hN1 := hN0.below hb1 (Nat.le_refl _)
  go_wp2_with fail
  refine (hC.number _ hN1).mono ?_
  rintro e w2 ⟨rfl, hb2⟩
  have hE2 := hE1.below hb2 (Nat.le_refl _)
  have hN2 := hN1.below hb2 (Nat.le_refl _)
  go_wp2_with fail
  refine (hC.ref _).mono ?_
  rintro e w3 ⟨rfl, hb3⟩
  have hE3 := hE2.below hb3 (Nat.le_refl _)
  have hN3 := hN2.below hb3 (Nat.le_refl _)
  go_wp2_with fail
  refine (num_any hE3.errs 0 (by omega)).mono ?_
  rintro e w4 ⟨rfl, hb4⟩
  have hE4 := hE3.below hb4 (Nat.le_refl _)
  have hN4 := hN3.below hb4 (Nat.le_refl _)
  go_wp2_with fail
  refine (hC.small _ hN4 (hE4.errs.at_ 1 (by omega) (by omega))).mono ?_
  rintro e w5 ⟨rfl, hb5⟩
  have hE5 := hE4.below hb5 (Nat.le_refl _)
  go_wp2_with fail
  refine (num_any hE5.errs 1 (by omega)).mono ?_
  rintro e w6 ⟨rfl, hb6⟩
  go_wp2
  go_ret
  exact ⟨rfl, nb6 hb1 hb2 hb3 hb4 hb5 hb6⟩

set_option maxHeartbeats 2000000 in
set_option maxRecDepth 100000 in
/-- a number of base 10 within the bound -/
theorem numbers_dec_ok {E : Nat → Addr} (s : ByteArray) (most : Int) (n : Nat) (w : World) (hE : LibIn E w) (hN0 : NumsIn E w) (hs : s.size ≤ 200) (hm : ¬ most < 0) (hgt : ¬ most < (n : Int)) (hcv : IntKind.u64.wrap most = most) (hcn : IntKind.u64.wrap (n : Int) = (n : Int)) (hC : Calls30c E s most n 0 n true true n 0) :
    Calls Tryd.prog 8 #[.string s, .int .i64 most] w (LawTrue w) := by
  have b1 : ¬ (200 : Int) < (s.size : Int) := by omega
  go_enter Tryd.func8, Tryd.ntmps8
  go_wp2_with fail
  refine (hC.alive _ hE).mono ?_
  rintro e w1 ⟨rfl, hb1⟩
  have hE1 := hE.below hb1 (Nat.le_refl _)
  have hN1 := hN0.below hb1 (Nat.le_refl _)
  go_wp2_with fail
  refine (hC.number _ hN1).mono ?_
  rintro e w2 ⟨rfl, hb2⟩
  have hE2 := hE1.below hb2 (Nat.le_refl _)
  have hN2 := hN1.below hb2 (Nat.le_refl _)
  go_wp2_with fail
  refine (hC.ref _).mono ?_
  rintro e w3 ⟨rfl, hb3⟩
  have hE3 := hE2.below hb3 (Nat.le_refl _)
  have hN3 := hN2.below hb3 (Nat.le_refl _)
  go_wp2_with fail
  refine (num_any hE3.errs 0 (by omega)).mono ?_
  rintro e w4 ⟨rfl, hb4⟩
  have hE4 := hE3.below hb4 (Nat.le_refl _)
  have hN4 := hN3.below hb4 (Nat.le_refl _)
  go_wp2_with fail
  refine (hC.small _ hN4 (hE4.errs.at_ 1 (by omega) (by omega))).mono ?_
  rintro e w5 ⟨rfl, hb5⟩
  have hE5 := hE4.below hb5 (Nat.le_refl _)
  have hz : errV E 0 = .nilIface := rfl
  rw [hz]
  go_wp2
  go_ret
  exact ⟨rfl, nb5 hb1 hb2 hb3 hb4 hb5⟩

/-- whatever the word and the bound: true -/
theorem law_numbers {E : Nat → Addr} (s : ByteArray) (most : Int) (w : World) (hE : LibIn E w) (hN : NumsIn E w) (hm0 : -9223372036854775808 ≤ most) (hm1 : most < 9223372036854775808) :
    Calls Tryd.prog 8 #[.string s, .int .i64 most] w (LawTrue w) := by
  by_cases hs : 200 < s.size
  · exact numbers_huge s most w hE hs
  · have HA := fun (W : World) (hW : NumsIn E W) => words_Number s W (by omega) hW
    have HS := fun (W : World) (hW : NumsIn E W) (h1 : ErrAt E W 1) => words_Small s most W (by omega) hW h1 hm0 hm1
    have HL := fun (W : World) (hW : LibIn E W) => alive30 W hW.lib
    by_cases hx : IsHexWord s
    · have HR := fun (W : World) => ref_num16 s W (by omega) hx.1 hx.2
      obtain ⟨e1, e2⟩ := numOf_hex hx
      rw [e1] at HA
      rw [e2] at HS
      cases h : hex (s.data.toList.drop 2) with
      | some n =>
        rw [h] at HA HR
        exact numbers_hex_some s most n w hE hN (by omega) ⟨HL, HA, HR, HS⟩
      | none =>
        rw [h] at HA HR
        exact numbers_hex_none s most w hE hN (by omega) ⟨HL, HA, HR, HS⟩
    · have HR := fun (W : World) => ref_num10 s W (by omega) (by
        unfold IsHexWord at hx
        by_cases h2 : 2 < s.size
        · exact .inr fun e => hx ⟨h2, e⟩
        · exact .inl h2)
      rw [numOf_dec hx] at HA
      cases h : dec s.data.toList with
      | some n =>
        have hn := dec_lt h
        rw [h] at HA HR HS
        have hcn : IntKind.u64.wrap (n : Int) = (n : Int) := by rw [IntKind.wrap_u64]; omega
        by_cases hm : most < 0
        · refine numbers_dec_neg s most n w hE hN (by omega) hm ⟨HL, HA, HR, fun W hW h1 => ?_⟩
          have := HS W hW h1
          unfold SmallPost at this
          simp only [hm, true_or, if_true] at this
          exact this
        · have hcv : IntKind.u64.wrap most = most := by rw [IntKind.wrap_u64]; omega
          by_cases hgt : most < (n : Int)
          · refine numbers_dec_great s most n w hE hN (by omega) hm hgt hcv ⟨HL, HA, HR, fun W hW h1 => ?_⟩
            have := HS W hW h1
            unfold SmallPost at this
            simp only [hgt, or_true, if_true] at this
            exact this
          · refine numbers_dec_ok s most n w hE hN (by omega) hm hgt hcv hcn ⟨HL, HA, HR, fun W hW h1 => ?_⟩
            have := HS W hW h1
            unfold SmallPost at this
            simp only [hm, hgt, or_self, if_false] at this
            exact this
      | none =>
        rw [h] at HA HR HS
        exact numbers_dec_none s most w hE hN (by omega) HL HA HR HS
end Go.Proofs.YtienlohogdkedaaDoor
