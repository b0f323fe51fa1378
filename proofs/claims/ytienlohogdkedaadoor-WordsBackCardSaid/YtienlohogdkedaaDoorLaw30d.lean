/- amblerlaw30.WordsBack: its walk: whatever the number and the text, true. -/
import Derived.Test.YtienlohogdkedaaDoorBackW
import Derived.Test.YtienlohogdkedaaDoorLaw30a
import Derived.Test.YtienlohogdkedaaDoorDecL
namespace Go.Proofs.YtienlohogdkedaaDoor
open Go.RowKit AmW AmD

theorem good_words {s : ByteArray} {L : List (Nat × List AmW.Bytes)} (h : goSplit [] 1 (lines s.data.toList) = .ok L) : ∀ p ∈ L, p.2 ≠ [] := fun p hp => (goSplit_good _ _ _ _ h (by simp) p hp).1
theorem renum_at' {L : List (Nat × List AmW.Bytes)} {k : Nat} {p : Nat × List AmW.Bytes} (h : L[k]? = some p) : (renum 1 L)[k]? = some (k + 1, p.2) := by
  rw [renum_at L 1 k p h, Nat.add_comm]

set_option maxHeartbeats 1000000 in
set_option maxRecDepth 100000 in
theorem back_huge {E : Nat → Addr} (n : Nat) (s : ByteArray) (w : World) (hE : LibB E w) (hs : 20000 < s.size) : Calls Tryd.prog 9 #[.int .u64 n, .string s] w (LawTrue w) := by
  have b1 : (20000 : Int) < (s.size : Int) := by omega
  go_enter Tryd.func9, Tryd.ntmps9
  go_wp2_with (go_at_call 35; refine (alive30 _ hE).mono ?_; rintro e w1 ⟨rfl, hb1⟩)
  go_ret
  exact ⟨rfl, hb1⟩

theorem says_nums {l : List UInt8} {b : ByteArray} (h : Says l b) : b.data.toList = l := h
theorem toList_ne (b : ByteArray) : (b.toList == b.toList) = true := by simp

theorem nb3 {w w1 w2 w3 : World} (h1 : Below w.heap.size w w1) (h2 : Below w1.heap.size w1 w2) (h3 : Below w2.heap.size w2 w3) : Below w.heap.size w w3 := by
  have s1 := h1.size
  have s2 := h2.size
  exact h1.trans ((h2.mono s1).trans (h3.mono (by omega)))
theorem nb6 {w w1 w2 w3 w4 w5 w6 : World} (h1 : Below w.heap.size w w1) (h2 : Below w1.heap.size w1 w2) (h3 : Below w2.heap.size w2 w3) (h4 : Below w3.heap.size w3 w4) (h5 : Below w4.heap.size w4 w5) (h6 : Below w5.heap.size w5 w6) : Below w.heap.size w w6 :=
  (nb3 h1 h2 h3).trans ((nb3 h4 h5 h6).mono (nb3 h1 h2 h3).size)

set_option maxHeartbeats 4000000 in
set_option maxRecDepth 100000 in
theorem back_bad {E : Nat → Addr} (n : Nat) (hn : n < 18446744073709551616) (s : ByteArray) (w : World) (hE : LibB E w) (hN : NumsIn E w) (hs : s.size ≤ 20000) (m : Nat) (hm : goSplit [] 1 (lines s.data.toList) = .bad m) :
    Calls Tryd.prog 9 #[.int .u64 n, .string s] w (LawTrue w) := by
  have b1 : ¬ (20000 : Int) < (s.size : Int) := by omega
  have hlen := hexs_length n
  have HH := Lib.hid (fun (W : World) (hW : LibB E W) => words_Hex n hn W hW.tz)
  have HA := Lib.hid (fun (W : World) (hW : NumsIn E W) => (show Calls Tryd.prog 39 #[strV (48 :: 120 :: hexs n)] W fun e w' => e = .returned (.tuple #[.int .u64 n, .nilIface]) ∧ Below W.heap.size W w' from by
    have := words_Number (E := E) ⟨(48 :: 120 :: hexs n).toArray⟩ W (by show (48 :: 120 :: hexs n).toArray.size ≤ _; rw [List.size_toArray]; simp only [List.length_cons]; omega) hW
    rw [show (⟨(48 :: 120 :: hexs n).toArray⟩ : ByteArray).data.toList = 48 :: 120 :: hexs n from rfl, numOf_hexs n hn] at this
    exact this))
  have HU := Lib.hid (fun (W : World) => num_unsigned n W hn)
  have HB := Lib.hid (fun (W : World) (hW : NumsIn E W) (b : ByteArray) (hb : Says (digits n) b) => (show Calls Tryd.prog 39 #[.string b] W fun e w' => e = .returned (.tuple #[.int .u64 n, .nilIface]) ∧ Below W.heap.size W w' from by
    have hdl := digits_length 19 n (by omega)
    have hbd := says_nums hb
    have hbs : b.size ≤ 70000 := by
      have := congrArg List.length hbd
      simp at this; omega
    have := words_Number (E := E) b W hbs hW
    rw [hbd, numOf_digits n hn] at this
    exact this))
  have HR := Lib.hid (fun (W : World) => ref_Hex n hn W)
  unfold strV at HH HA HR
  generalize hX : (⟨(48 :: 120 :: hexs n).toArray⟩ : ByteArray) = X at HH HA HR
  clear hX
  have hXX : (X.toList == X.toList) = true := by simp
  have HS := Lib.hid (fun (W : World) (hW : LibB E W) => by
    have := words_Split_short s W (by omega) hW.words
    rw [hm] at this
    exact this)
  clear hm hlen
  go_enter Tryd.func9, Tryd.ntmps9
  go_wp2_with fail
  refine (alive30 _ hE).mono ?_
  rintro e w1 ⟨rfl, hb1⟩
  have hE1 := hE.below hb1 (Nat.le_refl _)
  have hN1 := hN.below hb1 (Nat.le_refl _)
  go_wp2_with fail
  refine (HH.out _ hE1).mono ?_
  rintro e w2 ⟨rfl, hb2⟩
  have hE2 := hE1.below hb2 (Nat.le_refl _)
  have hN2 := hN1.below hb2 (Nat.le_refl _)
  go_wp2_with fail
  refine (HA.out _ hN2).mono ?_
  rintro e w3 ⟨rfl, hb3⟩
  have hE3 := hE2.below hb3 (Nat.le_refl _)
  have hN3 := hN2.below hb3 (Nat.le_refl _)
  go_wp2_with fail
  refine (HU.out _).mono ?_
  rintro e w4 ⟨b, hb, rfl, hb4⟩
  have hE4 := hE3.below hb4 (Nat.le_refl _)
  have hN4 := hN3.below hb4 (Nat.le_refl _)
  go_wp2_with fail
  refine (HB.out _ hN4 b hb).mono ?_
  rintro e w5 ⟨rfl, hb5⟩
  have hE5 := hE4.below hb5 (Nat.le_refl _)
  go_wp2_with fail
  refine (HH.out _ hE5).mono ?_
  rintro e w6 ⟨rfl, hb6⟩
  have hE6 := hE5.below hb6 (Nat.le_refl _)
  go_wp2_with fail
  refine (HR.out _).mono ?_
  rintro e w7 ⟨rfl, rfl⟩
  go_wp2_with fail
  refine (HS.out _ hE6).mono ?_
  rintro e w8 ⟨rfl, hb8⟩
  go_wp2
  go_ret
  exact ⟨rfl, nb6 hb1 hb2 hb3 hb4 hb5 (hb6.trans (hb8.mono hb6.size))⟩

set_option maxHeartbeats 4000000 in
set_option maxRecDepth 100000 in
theorem back_ok {E : Nat → Addr} (n : Nat) (hn : n < 18446744073709551616) (s : ByteArray) (w : World) (hE : LibB E w) (hN : NumsIn E w) (hs : s.size ≤ 20000) (L : List (Nat × List AmW.Bytes)) (hm : goSplit [] 1 (lines s.data.toList) = .ok L) :
    Calls Tryd.prog 9 #[.int .u64 n, .string s] w (LawTrue w) := by
  have b1 : ¬ (20000 : Int) < (s.size : Int) := by omega
  have hlen := hexs_length n
  have HH := Lib.hid (fun (W : World) (hW : LibB E W) => words_Hex n hn W hW.tz)
  have HA := Lib.hid (fun (W : World) (hW : NumsIn E W) => (show Calls Tryd.prog 39 #[strV (48 :: 120 :: hexs n)] W fun e w' => e = .returned (.tuple #[.int .u64 n, .nilIface]) ∧ Below W.heap.size W w' from by
    have := words_Number (E := E) ⟨(48 :: 120 :: hexs n).toArray⟩ W (by show (48 :: 120 :: hexs n).toArray.size ≤ _; rw [List.size_toArray]; simp only [List.length_cons]; omega) hW
    rw [show (⟨(48 :: 120 :: hexs n).toArray⟩ : ByteArray).data.toList = 48 :: 120 :: hexs n from rfl, numOf_hexs n hn] at this
    exact this))
  have HU := Lib.hid (fun (W : World) => num_unsigned n W hn)
  have HB := Lib.hid (fun (W : World) (hW : NumsIn E W) (b : ByteArray) (hb : Says (digits n) b) => (show Calls Tryd.prog 39 #[.string b] W fun e w' => e = .returned (.tuple #[.int .u64 n, .nilIface]) ∧ Below W.heap.size W w' from by
    have hdl := digits_length 19 n (by omega)
    have hbd := says_nums hb
    have hbs : b.size ≤ 70000 := by
      have := congrArg List.length hbd
      simp at this; omega
    have := words_Number (E := E) b W hbs hW
    rw [hbd, numOf_digits n hn] at this
    exact this))
  have HR := Lib.hid (fun (W : World) => ref_Hex n hn W)
  unfold strV at HH HA HR
  generalize hX : (⟨(48 :: 120 :: hexs n).toArray⟩ : ByteArray) = X at HH HA HR
  clear hX
  have hXX : (X.toList == X.toList) = true := by simp
  have HS := Lib.hid (fun (W : World) (hW : LibB E W) => by
    have := words_Split_short s W (by omega) hW.words
    rw [hm] at this
    exact this)
  have hLs : L.length ≤ 60001 ∧ ∀ p ∈ L, p.2.length ≤ 1000000 := split_small s (by omega) L hm
  have hjl := joined_len hm
  have hj6 : (joined L).length ≤ 60000 := by have : s.data.toList.length = s.size := by simp
                                             omega
  have HJ := Lib.hid (fun (W : World) (v : Value) (base : Nat) (hL : LinesOwn W base v L) => words_Join L v base W hL (by omega) hj6 (good_words hm) hLs.2)
  have HS2 := Lib.hid (fun (W : World) (hW : LibB E W) => by
    have := words_Split_short (E := E) ⟨(joined L).toArray⟩ W (by show (joined L).toArray.size ≤ _; rw [List.size_toArray]; exact hj6) hW.words
    rw [show (⟨(joined L).toArray⟩ : ByteArray).data.toList = joined L from rfl, split_joined hm] at this
    exact this)
  unfold strV at HJ
  have hrl := renum_length L 1
  have hLs' := Lib.hid hLs
  have HRN := Lib.hid (fun (k : Nat) (p : Nat × List AmW.Bytes) (h : L[k]? = some p) => renum_at' h)
  clear hm hlen hjl hj6 hLs
  go_enter Tryd.func9, Tryd.ntmps9
  go_wp2_with fail
  refine (alive30 _ hE).mono ?_
  rintro e w1 ⟨rfl, hb1⟩
  have hE1 := hE.below hb1 (Nat.le_refl _)
  have hN1 := hN.below hb1 (Nat.le_refl _)
  go_wp2_with fail
  refine (HH.out _ hE1).mono ?_
  rintro e w2 ⟨rfl, hb2⟩
  have hE2 := hE1.below hb2 (Nat.le_refl _)
  have hN2 := hN1.below hb2 (Nat.le_refl _)
  go_wp2_with fail
  refine (HA.out _ hN2).mono ?_
  rintro e w3 ⟨rfl, hb3⟩
  have hE3 := hE2.below hb3 (Nat.le_refl _)
  have hN3 := hN2.below hb3 (Nat.le_refl _)
  go_wp2_with fail
  refine (HU.out _).mono ?_
  rintro e w4 ⟨b, hb, rfl, hb4⟩
  have hE4 := hE3.below hb4 (Nat.le_refl _)
  have hN4 := hN3.below hb4 (Nat.le_refl _)
  go_wp2_with fail
  refine (HB.out _ hN4 b hb).mono ?_
  rintro e w5 ⟨rfl, hb5⟩
  have hE5 := hE4.below hb5 (Nat.le_refl _)
  go_wp2_with fail
  refine (HH.out _ hE5).mono ?_
  rintro e w6 ⟨rfl, hb6⟩
  have hE6 := hE5.below hb6 (Nat.le_refl _)
  go_wp2_with fail
  refine (HR.out _).mono ?_
  rintro e w7 ⟨rfl, rfl⟩
  go_wp2_with fail
  refine (HS.out _ hE6).mono ?_
  rintro e w8 ⟨v, rfl, hL8, hb8⟩
  have hE8 := hE6.below hb8 (Nat.le_refl _)
  obtain ⟨A0, c0, hv⟩ := own_form hL8.choose_spec.1
  subst hv
  go_wp2_with fail
  refine (HJ.out _ _ _ hL8).mono ?_
  rintro e w9 ⟨rfl, hb9⟩
  have hE9 := hE8.below hb9 (Nat.le_refl _)
  have hL9 := hL8.below hb9 (Nat.le_refl _)
  go_wp2_with fail
  refine (HS2.out _ hE9).mono ?_
  rintro e w10 ⟨v', rfl, hM10, hb10⟩
  have hL10 := LinesOwn.below hL9 hb10 (Nat.le_refl _)
  obtain ⟨A1, c1, hv1⟩ := own_form hM10.choose_spec.1
  rw [hrl] at hv1
  subst hv1
  have hbw : Below w.heap.size w w10 := (nb6 hb1 hb2 hb3 hb4 hb5 hb6).trans ((nb3 hb8 hb9 hb10).mono (nb6 hb1 hb2 hb3 hb4 hb5 hb6).size)
  have hrl' := Lib.hid hrl
  clear hE1 hE2 hE3 hE4 hE5 hE6 hE8 hE9 hN1 hN2 hN3 hN4 hL8 hL9 hb1 hb2 hb3 hb4 hb5 hb6 hb8 hb9 hb10 hrl hXX
  go_wp2_with fail
  go_loopw [14, 15, 89] (fun _ _ i wr => ∃ k : Nat, k ≤ L.length ∧ i = .int .i64 k ∧ Below w10.heap.size w10 wr) (fun _ _ i _ => L.length - (intOf i).toNat)
  case atStart => exact ⟨0, by omega, rfl, Below.refl _ _⟩
  case round =>
    obtain ⟨k, hk, rfl, hB⟩ := hrel
    by_cases hlt : k < L.length
    · have hp : L[k]? = some (L[k]'hlt) := List.getElem?_eq_getElem _
      have hpl := hLs'.out.2 _ (List.mem_of_getElem? hp)
      generalize L[k]'hlt = p at hp hpl
      obtain ⟨g0, c0', A5, c5, e0, hg0, k1, k2, hRd⟩ := LinesOwn.at_ hL10 hp
      obtain ⟨g1, c1', A6, c6, e1, hg1, k3, k4, hRd2⟩ := LinesOwn.at_ hM10 (HRN.out k p hp)
      obtain rfl : A0 = some ⟨g0, 0, none⟩ := by injection e0
      obtain rfl : A1 = some ⟨g1, 0, none⟩ := by rw [hrl'.out] at e1; injection e1
      clear e0 e1
      simp only at k3 k4 hRd2
      have e3 : ((k + 1 : Nat) : Int) = (k : Int) + 1 := by omega
      rw [e3] at k3
      clear e3
      have q2 : ∀ o, (wr.alloc o).cell? ⟨g0, k * 2 + 1, none⟩ = some (.slice A5 p.2.length c5) := fun o => (World.cell?_alloc_lt wr o _ (Nat.lt_of_lt_of_le hg0 hB.size)).trans ((hB.cell (p := ⟨g0, k * 2 + 1, none⟩) hg0).trans k2)
      have q3 := (hB.cell (p := ⟨g1, k * 2, none⟩) hg1).trans k3
      have q4 := (hB.cell (p := ⟨g1, k * 2 + 1, none⟩) hg1).trans k4
      have hlt' : (k : Int) < (L.length : Int) := by omega
      have hL64 : L.length ≤ 60001 := hLs'.out.1
      have hR1 := fun o => ((hRd.below hB).alloc hB.size o).more (B' := (wr.alloc o).heap.size) (by have := hB.size; simp; omega)
      have hR2 := fun o => ((hRd2.below hB).alloc hB.size o).more (B' := (wr.alloc o).heap.size) (by have := hB.size; simp; omega)
      have HR1 := Lib.hid hR1
      have HR2 := Lib.hid hR2
      clear hR1 hR2 k1 k2 k3 k4 hRd hRd2 hp
      go_wp2
      go_quiet ((go_at_call 38; exact quiet_left (same_texts _ _ _ _ _ p.2 _ ((HR2.out _).drewN _) ((HR1.out _).drewN _) hpl)))
      go_wp2
      go_roundw
      case rel => exact ⟨k + 1, by omega, by go_num, below_drewN (hB.alloc hB.size _) _⟩
      case measure => simp [intOf]; omega
    · go_wp2
      go_ret
      exact ⟨rfl, hbw.trans (hB.mono hbw.size)⟩

/-- whatever the number and the text: true -/
theorem law_back {E : Nat → Addr} (n : Nat) (hn : n < 18446744073709551616) (s : ByteArray) (w : World) (hE : LibB E w) (hN : NumsIn E w) : Calls Tryd.prog 9 #[.int .u64 n, .string s] w (LawTrue w) := by
  by_cases hs : 20000 < s.size
  · exact back_huge n s w hE hs
  · cases h : goSplit [] 1 (lines s.data.toList) with
    | bad m => exact back_bad n hn s w hE hN (by omega) m h
    | ok L => exact back_ok n hn s w hE hN (by omega) L h
end Go.Proofs.YtienlohogdkedaaDoor
