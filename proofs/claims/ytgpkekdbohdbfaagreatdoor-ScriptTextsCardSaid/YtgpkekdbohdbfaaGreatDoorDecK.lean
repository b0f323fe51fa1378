/- words.decimal, words.Number and words.Small by their contracts. -/
import Derived.Test.YtgpkekdbohdbfaaGreatDoorDecM
namespace Go.Proofs.YtgpkekdbohdbfaaGreatDoor
open Go.RowKit AmD

theorem figR_dec {l : List UInt8} (hne : l ≠ []) (hall : ∀ b ∈ l, isDig b = true) : figR false l = true := by
  unfold figR figs
  have h1 : l.all (figC false) = true := List.all_eq_true.2 fun b hb => hall b hb
  rw [h1]
  cases l with
  | nil => exact absurd rfl hne
  | cons _ _ => rfl
theorem head_data (s : ByteArray) (h : 0 < s.size) : s.data.toList = s[0] :: s.data.toList.drop 1 := by
  have h1 := List.drop_eq_getElem_cons (l := s.data.toList) (i := 0) (by simpa using h)
  rw [List.drop_zero] at h1
  exact h1
theorem noZero_head (s : ByteArray) (h : 1 < s.size) : noZero s.data.toList = (s[0] != 48) := by
  rw [head_data s (by omega)]
  cases h1 : s.data.toList.drop 1 with
  | nil =>
    have := congrArg List.length h1
    simp at this; omega
  | cons a b => rfl

set_option maxHeartbeats 4000000 in
set_option maxRecDepth 100000 in
theorem decimal_some {E : Nat → Addr} (s : ByteArray) (w : World) (hs : s.size ≤ 70000) (hN : NumsIn E w) (n : Nat) (h : dec s.data.toList = some n) :
    Calls Tryz.prog 45 #[.string s] w (NumPost E w (some n)) := by
  obtain ⟨hne, hall, hz, hv, hlt⟩ := dec_some h
  have hp := parse10_pub s w hs hN
  rw [parseB _ hne, parse10_of _ 0 hall (by omega), ← hv] at hp
  have HP := Lib.hid (show Calls Tryz.prog 47 #[.string s, .int .i64 10, .int .i64 64] w fun e w' => e = .returned (.tuple #[.int .u64 n, .nilIface]) ∧ Below w.heap.size w w' from hp)
  have HF := Lib.hid (fun W => words_figures s false W hs)
  have hf := Lib.hid (figR_dec hne hall)
  have h0 : 0 < s.size := by
    rcases Nat.eq_zero_or_pos s.size with q | q
    · exact absurd (List.length_eq_zero_iff.1 (by simpa using q)) hne
    · exact q
  by_cases h1 : 1 < s.size
  · have b1 : (1 : Int) < (s.size : Int) := by omega
    have hz' := noZero_head s h1
    rw [hz] at hz'
    have b2 : (((s[0]).toNat : Int) == 48) = false := byte_ne' (by simpa using hz'.symm) (by decide)
    clear h hne hall hz hv hp hz'
    go_enter Tryz.func45, Tryz.ntmps45
    go_wp2_with (first
      | (go_at_call 47; refine HP.out.mono ?_; rintro e w1 ⟨rfl, hb1⟩)
      | (go_at_call 48; refine (HF.out _).mono ?_; rintro e w2 ⟨rfl, hb2⟩; rw [hf.out]))
    go_ret2
    exact ⟨rfl, hb1.trans (hb2.mono hb1.size)⟩
  · have b1 : ¬ (1 : Int) < (s.size : Int) := by omega
    clear h hne hall hz hv hp
    go_enter Tryz.func45, Tryz.ntmps45
    go_wp2_with (first
      | (go_at_call 47; refine HP.out.mono ?_; rintro e w1 ⟨rfl, hb1⟩)
      | (go_at_call 48; refine (HF.out _).mono ?_; rintro e w2 ⟨rfl, hb2⟩; rw [hf.out]))
    go_ret2
    exact ⟨rfl, hb1.trans (hb2.mono hb1.size)⟩

set_option maxHeartbeats 4000000 in
set_option maxRecDepth 100000 in
theorem decimal_none {E : Nat → Addr} (s : ByteArray) (w : World) (hs : s.size ≤ 70000) (hN : NumsIn E w) (h : dec s.data.toList = none) :
    Calls Tryz.prog 45 #[.string s] w (NumPost E w none) := by
  have hd := dec_none h
  have hp := parse10_pub s w hs hN
  cases hr : Lib.parseUintB 64 s.data.toList with
  | ok u =>
    have hne : s.data.toList ≠ [] := fun e => by rw [e] at hr; simp [Lib.parseUintB] at hr
    have hr' := hr
    rw [parseB _ hne] at hr'
    obtain ⟨hall, hu⟩ := parse10_ok _ _ _ hr'
    have hlt := Lib.parseUint10_lt _ 0 u (by decide) hr'
    have hz : ¬ noZero s.data.toList = true := fun hz => hd ⟨hne, hall, hz, by omega⟩
    have h1 : 1 < s.size := by
      rcases Nat.lt_or_ge 1 s.size with q | q
      · exact q
      · exfalso; apply hz
        cases hl : s.data.toList with
        | nil => rfl
        | cons a r =>
          cases r with
          | nil => rfl
          | cons b r => have := congrArg List.length hl; simp at this; omega
    rw [hr] at hp
    have HP := Lib.hid (show Calls Tryz.prog 47 #[.string s, .int .i64 10, .int .i64 64] w fun e w' => e = .returned (.tuple #[.int .u64 u, .nilIface]) ∧ Below w.heap.size w w' from hp)
    have HF := Lib.hid (fun W => words_figures s false W hs)
    have hf := Lib.hid (figR_dec hne hall)
    have b1 : (1 : Int) < (s.size : Int) := by omega
    rw [noZero_head s h1] at hz
    have b2 : (((s[0]).toNat : Int) == 48) = true := by
      have : s[0] = 48 := by simpa using hz
      rw [this]; rfl
    have HN := Lib.hid hN
    clear h hne hall hz hp hd hr hr' hu hlt hN
    go_enter Tryz.func45, Tryz.ntmps45
    go_wp2_with (first
      | (go_at_call 47; refine HP.out.mono ?_; rintro e w1 ⟨rfl, hb1⟩)
      | (go_at_call 48; refine (HF.out _).mono ?_; rintro e w2 ⟨rfl, hb2⟩; rw [hf.out]; have h3 := (((HN.out.below hb1 (Nat.le_refl _)).below hb2 (Nat.le_refl _)).e13); simp only [ErrAt, gE] at h3))
    go_quiet (fail)
    go_wp2
    go_ret2
    exact ⟨rfl, below_drewN (hb1.trans (hb2.mono hb1.size)) _⟩
  | _ =>
    rw [hr] at hp
    obtain HP := Lib.hid (show Calls Tryz.prog 47 #[.string s, .int .i64 10, .int .i64 64] w fun e w' => ∃ m p, e = .returned (.tuple #[.int .u64 m, .iface 134 p]) ∧ Below w.heap.size w w' from hp)
    have HN := Lib.hid hN
    clear h hd hr hp hN
    go_enter Tryz.func45, Tryz.ntmps45
    go_wp2_with (first
      | (go_at_call 47; refine HP.out.mono ?_; rintro e w1 ⟨m, p, rfl, hb1⟩; have h3 := (HN.out.below hb1 (Nat.le_refl _)).e13; simp only [ErrAt, gE] at h3))
    go_quiet (fail)
    go_wp2
    go_ret2
    exact ⟨rfl, below_drewN hb1 _⟩

theorem words_decimal {E : Nat → Addr} (s : ByteArray) (w : World) (hs : s.size ≤ 70000) (hN : NumsIn E w) : Calls Tryz.prog 45 #[.string s] w (NumPost E w (dec s.data.toList)) := by
  cases h : dec s.data.toList with
  | some n => exact decimal_some s w hs hN n h
  | none => exact decimal_none s w hs hN h
end Go.Proofs.YtgpkekdbohdbfaaGreatDoor
