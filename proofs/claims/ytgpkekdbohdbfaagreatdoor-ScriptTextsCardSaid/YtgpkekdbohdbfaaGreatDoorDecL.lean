/- words.Number and words.Small by their contracts. -/
import Derived.Test.YtgpkekdbohdbfaaGreatDoorDecK
namespace Go.Proofs.YtgpkekdbohdbfaaGreatDoor
open Go.RowKit AmD

theorem figR_hex {l : List UInt8} (hne : l ≠ []) (hall : ∀ b ∈ l, isHex b = true) : figR true l = true := by
  unfold figR figs
  have h1 : l.all (figC true) = true := List.all_eq_true.2 fun b hb => hall b hb
  rw [h1]
  cases l with
  | nil => exact absurd rfl hne
  | cons _ _ => rfl
theorem figR_hex_of {l : List UInt8} (h : figR true l = true) : l ≠ [] ∧ ∀ b ∈ l, isHex b = true := by
  unfold figR figs at h
  rw [Bool.and_eq_true] at h
  refine ⟨fun e => by rw [e] at h; simp at h, fun b hb => List.all_eq_true.1 h.1 b hb⟩

set_option maxHeartbeats 4000000 in
set_option maxRecDepth 100000 in
theorem number10 {E : Nat → Addr} (s : ByteArray) (w : World) (hs : s.size ≤ 70000) (hN : NumsIn E w) (hp : Lib.hasPrefix s.data.toList [48, 120] = false) :
    Calls Tryz.prog 38 #[.string s] w (NumPost E w (dec s.data.toList)) := by
  have hc := Tryz.strings_CutPrefix s ⟨#[48, 120]⟩ w
  have e0 : (⟨#[48, 120]⟩ : ByteArray).data.toList = [48, 120] := rfl
  rw [e0, hp] at hc
  generalize (⟨(Lib.trimPrefix s.data.toList [48, 120]).toArray⟩ : ByteArray) = t at hc
  have hd := words_decimal s w hs hN
  have HC := Lib.hid hc
  clear hc e0 hp
  cases h : dec s.data.toList with
  | some n =>
    rw [h] at hd
    have HD := Lib.hid (show Calls Tryz.prog 45 #[.string s] w fun e w' => e = .returned (.tuple #[.int .u64 n, .nilIface]) ∧ Below w.heap.size w w' from hd)
    clear h hd
    go_enter Tryz.func38, Tryz.ntmps38
    go_wp2_with (first
      | (go_at_call 46; refine HC.out.mono ?_; rintro e w1 ⟨rfl, rfl⟩)
      | (go_at_call 45; refine HD.out.mono ?_; rintro e w2 ⟨rfl, hb2⟩))
    go_ret2
    exact ⟨rfl, hb2⟩
  | none =>
    rw [h] at hd
    have HD := Lib.hid (show Calls Tryz.prog 45 #[.string s] w fun e w' => e = .returned (.tuple #[.int .u64 0, .iface 145 (.pointer (some (E 13)))]) ∧ Below w.heap.size w w' from hd)
    clear h hd
    go_enter Tryz.func38, Tryz.ntmps38
    go_wp2_with (first
      | (go_at_call 46; refine HC.out.mono ?_; rintro e w1 ⟨rfl, rfl⟩)
      | (go_at_call 45; refine HD.out.mono ?_; rintro e w2 ⟨rfl, hb2⟩))
    go_ret2
    exact ⟨rfl, hb2⟩

set_option maxHeartbeats 4000000 in
set_option maxRecDepth 100000 in
theorem number16 {E : Nat → Addr} (s : ByteArray) (w : World) (hN : NumsIn E w) (hp : Lib.hasPrefix s.data.toList [48, 120] = true) (hl : (Lib.trimPrefix s.data.toList [48, 120]).length ≤ 70000) :
    Calls Tryz.prog 38 #[.string s] w (NumPost E w (hex (Lib.trimPrefix s.data.toList [48, 120]))) := by
  have hc := Tryz.strings_CutPrefix s ⟨#[48, 120]⟩ w
  have e0 : (⟨#[48, 120]⟩ : ByteArray).data.toList = [48, 120] := rfl
  rw [e0, hp] at hc
  generalize hlt : Lib.trimPrefix s.data.toList [48, 120] = l at hc hl ⊢
  obtain ⟨t, ht⟩ : ∃ t : ByteArray, t = ⟨l.toArray⟩ := ⟨_, rfl⟩
  have htl : t.data.toList = l := by rw [ht]
  have hts : t.size = l.length := by rw [ht]; simp [ByteArray.size]
  rw [← ht] at hc
  have hpu := parse16_pub t w (by omega) hN
  have HF := fun W => words_figures t true W (by omega)
  rw [htl] at hpu HF
  have HC := Lib.hid hc
  have HN := Lib.hid hN
  clear hc e0 hp ht htl hlt hN
  cases h : hex l with
  | some n =>
    obtain ⟨hne, hall, h16, h4⟩ := hex_some h
    rw [p16_hex h] at hpu
    rw [figR_hex hne hall] at HF
    have HP := Lib.hid (show Calls Tryz.prog 47 #[.string t, .int .i64 16, .int .i64 64] w fun e w' => e = .returned (.tuple #[.int .u64 n, .nilIface]) ∧ Below w.heap.size w w' from hpu)
    have HF' := Lib.hid HF
    have b1 : ¬ (16 : Int) < (t.size : Int) := by omega
    clear h hne hall hpu HF h4 hts h16
    go_enter Tryz.func38, Tryz.ntmps38
    go_wp2_with (first
      | (go_at_call 46; refine HC.out.mono ?_; rintro e w1 ⟨rfl, rfl⟩)
      | (go_at_call 47; refine HP.out.mono ?_; rintro e w2 ⟨rfl, hb2⟩)
      | (go_at_call 48; refine (HF'.out _).mono ?_; rintro e w3 ⟨rfl, hb3⟩))
    go_ret2
    exact ⟨rfl, hb2.trans (hb3.mono hb2.size)⟩
  | none =>
    have hn := hex_none h
    cases hr : p16 l with
    | ok u =>
      rw [hr] at hpu
      have HP := Lib.hid (show Calls Tryz.prog 47 #[.string t, .int .i64 16, .int .i64 64] w fun e w' => e = .returned (.tuple #[.int .u64 u, .nilIface]) ∧ Below w.heap.size w w' from hpu)
      cases hf : figR true l with
      | true =>
        have h16 : 16 < l.length := by
          obtain ⟨q1, q2⟩ := figR_hex_of hf
          rcases Nat.lt_or_ge 16 l.length with q | q
          · exact q
          · exact absurd ⟨q1, q2, q⟩ hn
        have b1 : (16 : Int) < (t.size : Int) := by omega
        rw [hf] at HF
        have HF' := Lib.hid HF
        clear h hn hr hf hpu HF
        go_enter Tryz.func38, Tryz.ntmps38
        go_wp2_with (first
          | (go_at_call 46; refine HC.out.mono ?_; rintro e w1 ⟨rfl, rfl⟩)
          | (go_at_call 47; refine HP.out.mono ?_; rintro e w2 ⟨rfl, hb2⟩)
          | (go_at_call 48; refine (HF'.out _).mono ?_; rintro e w3 ⟨rfl, hb3⟩; have h3 := ((HN.out.below hb2 (Nat.le_refl _)).below hb3 (Nat.le_refl _)).e13; simp only [ErrAt, gE] at h3))
        go_quiet (fail)
        go_wp2
        go_ret2
        exact ⟨rfl, below_drewN (hb2.trans (hb3.mono hb2.size)) _⟩
      | false =>
        rw [hf] at HF
        have HF' := Lib.hid HF
        clear h hn hr hf hpu HF
        go_enter Tryz.func38, Tryz.ntmps38
        go_wp2_with (first
          | (go_at_call 46; refine HC.out.mono ?_; rintro e w1 ⟨rfl, rfl⟩)
          | (go_at_call 47; refine HP.out.mono ?_; rintro e w2 ⟨rfl, hb2⟩)
          | (go_at_call 48; refine (HF'.out _).mono ?_; rintro e w3 ⟨rfl, hb3⟩; have h3 := ((HN.out.below hb2 (Nat.le_refl _)).below hb3 (Nat.le_refl _)).e13; simp only [ErrAt, gE] at h3))
        go_quiet (fail)
        go_wp2
        go_ret2
        exact ⟨rfl, below_drewN (hb2.trans (hb3.mono hb2.size)) _⟩
    | _ =>
      rw [hr] at hpu
      have HP := Lib.hid (show Calls Tryz.prog 47 #[.string t, .int .i64 16, .int .i64 64] w fun e w' => ∃ m p, e = .returned (.tuple #[.int .u64 m, .iface 134 p]) ∧ Below w.heap.size w w' from hpu)
      clear h hn hr hpu HF
      go_enter Tryz.func38, Tryz.ntmps38
      go_wp2_with (first
        | (go_at_call 46; refine HC.out.mono ?_; rintro e w1 ⟨rfl, rfl⟩)
        | (go_at_call 47; refine HP.out.mono ?_; rintro e w2 ⟨m, p, rfl, hb2⟩; have h3 := (HN.out.below hb2 (Nat.le_refl _)).e13; simp only [ErrAt, gE] at h3))
      go_quiet (fail)
      go_wp2
      go_ret2
      exact ⟨rfl, below_drewN hb2 _⟩

theorem words_Number {E : Nat → Addr} (s : ByteArray) (w : World) (hs : s.size ≤ 70000) (hN : NumsIn E w) : Calls Tryz.prog 38 #[.string s] w (NumPost E w (numOf s.data.toList)) := by
  unfold numOf
  have hl : s.data.toList.length = s.size := by simp
  cases hp : Lib.hasPrefix s.data.toList [48, 120] with
  | true =>
    simp only [if_true]
    exact number16 s w hN hp (by unfold Lib.trimPrefix; split <;> simp <;> omega)
  | false =>
    simp only [Bool.false_eq_true, if_false]
    exact number10 s w hs hN hp

/-- what words.Small answers -/
def SmallPost (E : Nat → Addr) (w : World) (r : Option Nat) (most : Int) (e : Ending) (w' : World) : Prop :=
  match r with
  | some n => if most < 0 ∨ most < n then e = .returned (.tuple #[.int .i64 0, .iface 145 (.pointer (some (E 1)))]) ∧ Below w.heap.size w w' else e = .returned (.tuple #[.int .i64 n, .nilIface]) ∧ Below w.heap.size w w'
  | none => e = .returned (.tuple #[.int .i64 0, .iface 145 (.pointer (some (E 13)))]) ∧ Below w.heap.size w w'

theorem small_range {E : Nat → Addr} {w w' : World} {n : Nat} {most : Int} (h : most < 0 ∨ most < (n : Int)) (hb : Below w.heap.size w w') :
    SmallPost E w (some n) most (.returned (.tuple #[.int .i64 0, .iface 145 (.pointer (some (E 1)))])) w' := by
  unfold SmallPost
  simp only [if_pos h]
  exact ⟨trivial, hb⟩
theorem small_ok {E : Nat → Addr} {w w' : World} {n : Nat} {most : Int} (h : ¬ (most < 0 ∨ most < (n : Int))) (hb : Below w.heap.size w w') :
    SmallPost E w (some n) most (.returned (.tuple #[.int .i64 n, .nilIface])) w' := by
  unfold SmallPost
  simp only [if_neg h]
  exact ⟨trivial, hb⟩

set_option maxHeartbeats 4000000 in
set_option maxRecDepth 100000 in
theorem words_Small {E : Nat → Addr} (s : ByteArray) (most : Int) (w : World) (hs : s.size ≤ 70000) (hN : NumsIn E w) (he1 : ErrAt E w 1) (hm0 : -9223372036854775808 ≤ most) (hm1 : most < 9223372036854775808) :
    Calls Tryz.prog 37 #[.string s, .int .i64 most] w (SmallPost E w (dec s.data.toList) most) := by
  have hd := words_decimal s w hs hN
  have HE := Lib.hid he1
  clear he1 hN
  cases h : dec s.data.toList with
  | none =>
    rw [h] at hd
    have HD := Lib.hid (show Calls Tryz.prog 45 #[.string s] w fun e w' => e = .returned (.tuple #[.int .u64 0, .iface 145 (.pointer (some (E 13)))]) ∧ Below w.heap.size w w' from hd)
    clear h hd
    go_enter Tryz.func37, Tryz.ntmps37
    go_wp2_with (go_at_call 45; refine HD.out.mono ?_; rintro e w2 ⟨rfl, hb2⟩)
    go_ret2
    exact ⟨rfl, hb2⟩
  | some n =>
    rw [h] at hd
    have hn : n < 18446744073709551616 := (dec_some h).2.2.2.2
    have HD := Lib.hid (show Calls Tryz.prog 45 #[.string s] w fun e w' => e = .returned (.tuple #[.int .u64 n, .nilIface]) ∧ Below w.heap.size w w' from hd)
    clear h hd
    by_cases h1 : most < 0
    · have HX := Lib.hid (show (most < 0 ∨ most < (n : Int)) from .inl h1)
      go_enter Tryz.func37, Tryz.ntmps37
      go_wp2_with (go_at_call 45; refine HD.out.mono ?_; rintro e w2 ⟨rfl, hb2⟩; have h3 := HE.out.below hb2 (Nat.le_refl _); simp only [ErrAt, gE] at h3)
      go_quiet (fail)
      go_wp2
      go_ret2
      exact small_range HX.out (below_drewN hb2 _)
    · have hwr : IntKind.u64.wrap most = most := by rw [IntKind.wrap_u64]; omega
      by_cases h2 : most < (n : Int)
      · have HX := Lib.hid (show (most < 0 ∨ most < (n : Int)) from .inr h2)
        go_enter Tryz.func37, Tryz.ntmps37
        go_wp2_with (go_at_call 45; refine HD.out.mono ?_; rintro e w2 ⟨rfl, hb2⟩; have h3 := HE.out.below hb2 (Nat.le_refl _); simp only [ErrAt, gE] at h3)
        go_quiet (fail)
        go_wp2
        go_ret2
        exact small_range HX.out (below_drewN hb2 _)
      · have HX := Lib.hid (show ¬ (most < 0 ∨ most < (n : Int)) from by omega)
        obtain ⟨a, ha⟩ : ∃ a : Int, (n : Int) = a := ⟨_, rfl⟩
        have a0 : 0 ≤ a := by omega
        have a1 : ¬ most < a := by omega
        have a2 : a < 9223372036854775808 := by omega
        have HD' := Lib.hid (show Calls Tryz.prog 45 #[.string s] w fun e w' => e = .returned (.tuple #[.int .u64 a, .nilIface]) ∧ Below w.heap.size w w' by rw [← ha]; exact HD.out)
        have HA := Lib.hid ha
        clear HD hn h2 ha
        go_enter Tryz.func37, Tryz.ntmps37
        go_wp2_with (go_at_call 45; refine HD'.out.mono ?_; rintro e w2 ⟨rfl, hb2⟩)
        go_ret2
        rw [← HA.out]
        exact small_ok HX.out hb2
end Go.Proofs.YtgpkekdbohdbfaaGreatDoor
