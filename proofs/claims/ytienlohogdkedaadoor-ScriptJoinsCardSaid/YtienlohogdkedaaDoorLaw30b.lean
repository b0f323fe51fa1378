/- amblerlaw30.WordsRemarks: its walk: whatever the text and the remark, true. -/
import Derived.Test.YtienlohogdkedaaDoorLaw30a
import Derived.Test.YtienlohogdkedaaDoorRemarksP
namespace Go.Proofs.YtienlohogdkedaaDoor
open Go.RowKit AmW

theorem alive_first {E : Nat → Addr} (w : World) (hE : LibIn E w) (P : World → Prop) (h : ∀ w1, Below w.heap.size w w1 → LibIn E w1 → P w1) :
    Calls Tryd.prog 35 #[] w fun e w' => e = .returned (.bool true) ∧ P w' :=
  (alive30 _ hE.lib).mono fun _ _ ⟨he, hb⟩ => ⟨he, h _ hb (hE.below hb (Nat.le_refl _))⟩

set_option maxHeartbeats 1000000 in
set_option maxRecDepth 100000 in
theorem remarks_huge {E : Nat → Addr} (s r : ByteArray) (w : World) (hE : LibIn E w) (hs : 10000 < s.size ∨ 100 < r.size) : Calls Tryd.prog 7 #[.string s, .string r] w (LawTrue w) := by
  by_cases h1 : 10000 < s.size
  · have b1 : (10000 : Int) < (s.size : Int) := by omega
    go_enter Tryd.func7, Tryd.ntmps7
    go_wp2_with (go_at_call 35; refine (alive30 _ hE.lib).mono ?_; rintro e w1 ⟨rfl, hb1⟩)
    go_ret
    exact ⟨rfl, hb1⟩
  · have b1 : ¬ (10000 : Int) < (s.size : Int) := by omega
    have b2 : (100 : Int) < (r.size : Int) := by omega
    go_enter Tryd.func7, Tryd.ntmps7
    go_wp2_with (go_at_call 35; refine (alive30 _ hE.lib).mono ?_; rintro e w1 ⟨rfl, hb1⟩)
    go_ret
    exact ⟨rfl, hb1⟩

theorem goSplit_nums : ∀ (ls : List Bytes) (acc : List (Nat × List Bytes)) (n : Nat) (L : List (Nat × List Bytes)), goSplit acc n ls = .ok L → ∀ p ∈ L, p ∈ acc ∨ p.1 < n + ls.length
  | [], acc, n, L, h => by
    simp only [goSplit, Res.ok.injEq] at h
    subst h
    exact fun p hp => .inl hp
  | l :: r, acc, n, L, h => by
    rw [goSplit_step] at h
    split at h
    · intro p hp
      rcases goSplit_nums r _ _ L h p hp with h3 | h3
      · unfold add at h3
        split at h3
        · exact .inl h3
        · rcases List.mem_append.1 h3 with h3 | h3
          · exact .inl h3
          · simp at h3
            right; rw [h3]; simp
      · right; simp; omega
    · cases h
theorem split_small1 (s : ByteArray) (hs : s.size ≤ 60000) (L : List (Nat × List Bytes)) (h : goSplit [] 1 (lines s.data.toList) = .ok L) : L.length ≤ 60001 ∧ ∀ p ∈ L, p.2.length ≤ 1000000 ∧ p.1 ≤ 60001 := by
  obtain ⟨h1, h2⟩ := split_small s hs L h
  have hl := lines_length_le s.data.toList
  have e : s.data.toList.length = s.size := by simp
  refine ⟨h1, fun p hp => ⟨h2 p hp, ?_⟩⟩
  rcases goSplit_nums _ _ _ _ h p hp with h3 | h3
  · cases h3
  · omega

theorem goSplit_bad_le : ∀ (ls : List Bytes) (acc : List (Nat × List Bytes)) (n m : Nat), goSplit acc n ls = .bad m → m < n + ls.length
  | [], acc, n, m, h => by simp [goSplit] at h
  | l :: r, acc, n, m, h => by
    rw [goSplit_step] at h
    split at h
    · have := goSplit_bad_le r _ _ m h
      simp only [List.length_cons]; omega
    · injection h with h
      simp only [List.length_cons]; omega
theorem split_bad_small (s : ByteArray) (hs : s.size ≤ 60000) (m : Nat) (h : goSplit [] 1 (lines s.data.toList) = .bad m) : m ≤ 60002 := by
  have h1 := goSplit_bad_le _ _ _ _ h
  have hl := lines_length_le s.data.toList
  have e : s.data.toList.length = s.size := by simp
  omega

/-- no line's end in the first k bytes -/
def NoNl (r : ByteArray) (k : Nat) : Prop := ∀ j, j < k → ∀ h : j < r.size, r[j] ≠ 10

set_option maxHeartbeats 1000000 in
set_option maxRecDepth 100000 in
theorem remarks_nl {E : Nat → Addr} (s r : ByteArray) (w : World) (hE : LibIn E w) (hs : s.size ≤ 10000) (hr : r.size ≤ 100) (hnl : ¬ NoNl r r.size) : Calls Tryd.prog 7 #[.string s, .string r] w (LawTrue w) := by
  have b1 : ¬ (10000 : Int) < (s.size : Int) := by omega
  have b2 : ¬ (100 : Int) < (r.size : Int) := by omega
  go_enter Tryd.func7, Tryd.ntmps7
  go_wp2_with (go_at_call 35; refine (alive30 _ hE.lib).mono ?_; rintro e w1 ⟨rfl, hb1⟩)
  go_loop [5, 26] (fun _ i => ∃ k : Nat, k ≤ r.size ∧ i = .int .i64 k ∧ NoNl r k) (fun _ i => r.size - (intOf i).toNat)
  case atStart => exact ⟨0, by omega, rfl, fun j hj => by omega⟩
  case round =>
    obtain ⟨k, hk, rfl, hno⟩ := hrel
    by_cases hlt : k < r.size
    · have hlt' : (k : Int) < (r.size : Int) := by omega
      by_cases hb : r[k] = 10
      · have b3 : (((r[k]).toNat : Int) == 10) = true := by rw [hb]; rfl
        go_wp2
        go_ret
        exact ⟨rfl, hb1⟩
      · have b3 : (((r[k]).toNat : Int) == 10) = false := byte_ne hb (by decide)
        have hno' := Lib.hid (show NoNl r (k + 1) from fun j hj h => by
          by_cases e : j = k
          · subst e; exact hb
          · exact hno j (by omega) h)
        clear hno
        go_wp2
        go_round
        case rel => exact ⟨k + 1, by omega, by go_num, hno'.out⟩
        case measure => first | (simp [intOf]; done) | (simp [intOf]; omega)
    · obtain rfl : k = r.size := by omega
      exact absurd hno hnl

theorem rem_data (s r : ByteArray) : ((((((⟨#[35]⟩ : ByteArray) ++ r) ++ ⟨#[10, 32, 32, 32, 10]⟩) ++ s) ++ ⟨#[32, 35]⟩) ++ r).data.toList = remarked r.data.toList s.data.toList := by
  simp [remarked]
theorem rem_size (s r : ByteArray) (hs : s.size ≤ 10000) (hr : r.size ≤ 100) : ((((((⟨#[35]⟩ : ByteArray) ++ r) ++ ⟨#[10, 32, 32, 32, 10]⟩) ++ s) ++ ⟨#[32, 35]⟩) ++ r).size ≤ 60000 := by
  simp only [ByteArray.size_append]
  have e1 : (⟨#[35]⟩ : ByteArray).size = 1 := rfl
  have e2 : (⟨#[10, 32, 32, 32, 10]⟩ : ByteArray).size = 5 := rfl
  have e3 : (⟨#[32, 35]⟩ : ByteArray).size = 2 := rfl
  omega
theorem noNl_mem {r : ByteArray} (h : NoNl r r.size) : ∀ b ∈ r.data.toList, b ≠ 10 := by
  intro b hb
  obtain ⟨j, hj, rfl⟩ := List.getElem_of_mem hb
  exact h j (by simpa using hj) (by simpa using hj)

set_option maxHeartbeats 2000000 in
set_option maxRecDepth 100000 in
theorem remarks_bad {E : Nat → Addr} (s r : ByteArray) (w : World) (hE : LibIn E w) (hs : s.size ≤ 10000) (hr : r.size ≤ 100) (hnl : NoNl r r.size) (n : Nat) (hn : goSplit [] 1 (lines s.data.toList) = .bad n) : Calls Tryd.prog 7 #[.string s, .string r] w (LawTrue w) := by
  have b1 : ¬ (10000 : Int) < (s.size : Int) := by omega
  have b2 : ¬ (100 : Int) < (r.size : Int) := by omega
  have HS := fun (W : World) (hW : LibIn E W) => words_Split_short s W (by omega) hW.words
  have HR := fun (W : World) (hW : LibIn E W) => words_Split_short (((((((⟨#[35]⟩ : ByteArray) ++ r) ++ ⟨#[10, 32, 32, 32, 10]⟩) ++ s) ++ ⟨#[32, 35]⟩) ++ r)) W (rem_size s r hs hr) hW.words
  rw [rem_data, remarked_split _ _ (noNl_mem hnl), hn] at HR
  have hnb := split_bad_small s (by omega) n hn
  rw [hn] at HS
  have HS' := Lib.hid HS
  have e2 : ((n + 2 : Nat) : Int) = (n : Int) + 2 := by omega
  have HR' := Lib.hid (show ∀ (W : World), LibIn E W → Calls Tryd.prog 36 #[.string ((((((⟨#[35]⟩ : ByteArray) ++ r) ++ ⟨#[10, 32, 32, 32, 10]⟩) ++ s) ++ ⟨#[32, 35]⟩) ++ r)] W fun e w' => e = .returned (.tuple #[.slice none 0 0, .int .i64 ((n : Int) + 2), .iface 211 (.pointer (some (E 3)))]) ∧ Below W.heap.size W w' from
    fun W hW => (HR W hW).mono fun e w' h => by rw [← e2]; exact h)
  have hnl' := Lib.hid hnl
  clear HS HR hn hnl e2
  go_enter Tryd.func7, Tryd.ntmps7
  go_wp2_with (go_at_call 35; refine (alive30 _ hE.lib).mono ?_; rintro e w1 ⟨rfl, hb1⟩; have hE1 := hE.below hb1 (Nat.le_refl _))
  go_loop [5, 26] (fun _ i => ∃ k : Nat, k ≤ r.size ∧ i = .int .i64 k) (fun _ i => r.size - (intOf i).toNat)
  case atStart => exact ⟨0, by omega, rfl⟩
  case round =>
    obtain ⟨k, hk, rfl⟩ := hrel
    by_cases hlt : k < r.size
    · have hlt' : (k : Int) < (r.size : Int) := by omega
      have b3 : (((r[k]).toNat : Int) == 10) = false := byte_ne (hnl'.out k hlt hlt) (by decide)
      go_wp2
      go_round
      case rel => exact ⟨k + 1, by omega, by go_num⟩
      case measure => first | (simp [intOf]; done) | (simp [intOf]; omega)
    · go_wp2_with (first
        | (go_at_call 36; first
            | (refine (HS'.out _ hE1).mono ?_; clear HS'; rintro e w2 ⟨rfl, hb2⟩; have hE2 := hE1.below hb2 (Nat.le_refl _))
            | (refine (HR'.out _ hE2).mono ?_; rintro e w3 ⟨rfl, hb3⟩; have hE3 := hE2.below hb3 (Nat.le_refl _)))
        | (go_at_call 17; first
            | (refine (num_err hE3.errs 3 (by omega) (by omega)).mono ?_; rintro e w4 ⟨rfl, hb4⟩; have hE4 := hE3.below hb4 (Nat.le_refl _))
            | (refine (num_err hE4.errs 3 (by omega) (by omega)).mono ?_; rintro e w5 ⟨rfl, hb5⟩)))
      go_ret
      have s1 := hb1.size
      have s2 := hb2.size
      have s3 := hb3.size
      have s4 := hb4.size
      exact ⟨rfl, hb1.trans ((hb2.mono s1).trans ((hb3.mono (by omega)).trans ((hb4.mono (by omega)).trans (hb5.mono (by omega)))))⟩

set_option maxHeartbeats 2000000 in
set_option maxRecDepth 100000 in
theorem remarks_ok {E : Nat → Addr} (s r : ByteArray) (w : World) (hE : LibIn E w) (hs : s.size ≤ 10000) (hr : r.size ≤ 100) (hnl : NoNl r r.size) (L : List (Nat × List Bytes)) (hn : goSplit [] 1 (lines s.data.toList) = .ok L) : Calls Tryd.prog 7 #[.string s, .string r] w (LawTrue w) := by
  have b1 : ¬ (10000 : Int) < (s.size : Int) := by omega
  have b2 : ¬ (100 : Int) < (r.size : Int) := by omega
  have HS := fun (W : World) (hW : LibIn E W) => words_Split_short s W (by omega) hW.words
  have HR := fun (W : World) (hW : LibIn E W) => words_Split_short (((((((⟨#[35]⟩ : ByteArray) ++ r) ++ ⟨#[10, 32, 32, 32, 10]⟩) ++ s) ++ ⟨#[32, 35]⟩) ++ r)) W (rem_size s r hs hr) hW.words
  rw [rem_data, remarked_split _ _ (noNl_mem hnl), hn] at HR
  rw [hn] at HS
  have HS' := Lib.hid HS
  have HR' := Lib.hid (show ∀ (W : World), LibIn E W → Calls Tryd.prog 36 #[.string ((((((⟨#[35]⟩ : ByteArray) ++ r) ++ ⟨#[10, 32, 32, 32, 10]⟩) ++ s) ++ ⟨#[32, 35]⟩) ++ r)] W (SplitPost E W (.ok (L.map up))) from HR)
  have hnl' := Lib.hid hnl
  have hLs : L.length ≤ 60001 ∧ ∀ p ∈ L, p.2.length ≤ 1000000 ∧ p.1 ≤ 60001 := split_small1 s (by omega) L hn
  clear HS HR hn hnl
  go_enter Tryd.func7, Tryd.ntmps7
  go_wp2_with (go_at_call 35; refine (alive30 _ hE.lib).mono ?_; rintro e w1 ⟨rfl, hb1⟩; have hE1 := hE.below hb1 (Nat.le_refl _))
  go_loop [5, 26] (fun _ i => ∃ k : Nat, k ≤ r.size ∧ i = .int .i64 k) (fun _ i => r.size - (intOf i).toNat)
  case atStart => exact ⟨0, by omega, rfl⟩
  case round =>
    obtain ⟨k, hk, rfl⟩ := hrel
    by_cases hlt : k < r.size
    · have hlt' : (k : Int) < (r.size : Int) := by omega
      have b3 : (((r[k]).toNat : Int) == 10) = false := byte_ne (hnl'.out k hlt hlt) (by decide)
      go_wp2
      go_round
      case rel => exact ⟨k + 1, by omega, by go_num⟩
      case measure => first | (simp [intOf]; done) | (simp [intOf]; omega)
    · go_wp2_with (first
        | (go_at_call 36; first
            | (refine (HS'.out _ hE1).mono ?_; clear HS'; rintro e w2 ⟨v, rfl, hL2, hb2⟩; have hE2 := hE1.below hb2 (Nat.le_refl _); obtain ⟨A0, c0, hv⟩ := own_form hL2.choose_spec.1; subst hv)
            | (refine (HR'.out _ hE2).mono ?_; rintro e w3 ⟨v', rfl, hM3, hb3⟩; have hL3 := hL2.below hb3 (Nat.le_refl _); obtain ⟨A1, c1, hv1⟩ := own_form hM3.choose_spec.1; rw [List.length_map] at hv1; subst hv1)))
      have s1 := hb1.size
      have s2 := hb2.size
      have s3 := hb3.size
      have hbw : Below w.heap.size w w3 := hb1.trans ((hb2.mono s1).trans (hb3.mono (by omega)))
      clear hE1 hE2 hL2 hb1 hb2 hb3
      go_loopw [12, 13, 82] (fun _ _ i wr => ∃ k : Nat, k ≤ L.length ∧ i = .int .i64 k ∧ Below w3.heap.size w3 wr) (fun _ _ i _ => L.length - (intOf i).toNat)
      case atStart => exact ⟨0, by omega, rfl, Below.refl _ _⟩
      case round =>
        obtain ⟨k, hk, rfl, hB⟩ := hrel
        by_cases hlt : k < L.length
        · have hp : L[k]? = some (L[k]'hlt) := List.getElem?_eq_getElem _
          have hpl := hLs.2 _ (List.mem_of_getElem? hp)
          generalize L[k]'hlt = p at hp hpl
          obtain ⟨g0, c0', A5, c5, e0, hg0, k1, k2, hRd⟩ := hL3.at_ hp
          obtain ⟨g1, c1', A6, c6, e1, hg1, k3, k4, hRd2⟩ := hM3.at_ (i := k) (p := up p) (by rw [List.getElem?_map, hp]; rfl)
          obtain rfl : A0 = some ⟨g0, 0, none⟩ := by injection e0
          obtain rfl : A1 = some ⟨g1, 0, none⟩ := by rw [List.length_map] at e1; injection e1
          clear e0 e1
          simp only [up] at k3 k4 hRd2
          have e3 : ((p.1 + 2 : Nat) : Int) = (p.1 : Int) + 2 := by omega
          rw [e3] at k3
          clear e3
          have q1 : ∀ o, (wr.alloc o).cell? ⟨g0, k * 2, none⟩ = some (.int .i64 (p.1 : Int)) := fun o => (World.cell?_alloc_lt wr o _ (Nat.lt_of_lt_of_le hg0 hB.size)).trans ((hB.cell (p := ⟨g0, k * 2, none⟩) hg0).trans k1)
          have q2 : ∀ o, (wr.alloc o).cell? ⟨g0, k * 2 + 1, none⟩ = some (.slice A5 p.2.length c5) := fun o => (World.cell?_alloc_lt wr o _ (Nat.lt_of_lt_of_le hg0 hB.size)).trans ((hB.cell (p := ⟨g0, k * 2 + 1, none⟩) hg0).trans k2)
          have q3 := (hB.cell (p := ⟨g1, k * 2, none⟩) hg1).trans k3
          have q4 := (hB.cell (p := ⟨g1, k * 2 + 1, none⟩) hg1).trans k4
          have hlt' : (k : Int) < (L.length : Int) := by omega
          have hp1 := hpl.2
          have hR1 := fun o => ((hRd.below hB).alloc hB.size o).more (B' := (wr.alloc o).heap.size) (by have := hB.size; simp; omega)
          have hR2 := fun o => ((hRd2.below hB).alloc hB.size o).more (B' := (wr.alloc o).heap.size) (by have := hB.size; simp; omega)
          have HR1 := Lib.hid hR1
          have HR2 := Lib.hid hR2
          clear hR1 hR2 k1 k2 k3 k4 hRd hRd2 hp
          go_wp2
          go_quiet ((go_at_call 38; exact quiet_left (same_texts _ _ _ _ _ p.2 _ ((HR2.out _).drewN _) ((HR1.out _).drewN _) hpl.1)))
          go_wp2
          go_roundw
          case rel => exact ⟨k + 1, by omega, by go_num, below_drewN (hB.alloc hB.size _) _⟩
          case measure => simp [intOf]; omega
        · go_wp2
          go_ret
          exact ⟨rfl, hbw.trans (hB.mono (by omega))⟩

/-- whatever the text and the remark: true -/
theorem law_remarks {E : Nat → Addr} (s r : ByteArray) (w : World) (hE : LibIn E w) : Calls Tryd.prog 7 #[.string s, .string r] w (LawTrue w) := by
  by_cases h1 : 10000 < s.size ∨ 100 < r.size
  · exact remarks_huge s r w hE h1
  · by_cases h2 : NoNl r r.size
    · cases h : goSplit [] 1 (lines s.data.toList) with
      | bad n => exact remarks_bad s r w hE (by omega) (by omega) h2 n h
      | ok L => exact remarks_ok s r w hE (by omega) (by omega) h2 L h
    · exact remarks_nl s r w hE (by omega) (by omega) h2
end Go.Proofs.YtienlohogdkedaaDoor
