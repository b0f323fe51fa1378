/- amblerlaw30.WordsSplits: its walk: whatever the text, true. -/
import Derived.Test.YtienlohogdkedaaDoorAlive30
import Derived.Test.YtienlohogdkedaaDoorWordsR
import Derived.Test.YtienlohogdkedaaDoorNum
namespace Go.Proofs.YtienlohogdkedaaDoor
open Go.RowKit AmW

theorem IntsOwn.at_ {w : World} {base : Nat} {v : Value} {l : List Nat} (h : IntsOwn w base v l) {i n : Nat} (hn : l[i]? = some n) :
    ∃ g c, v = .slice (some ⟨g, 0, none⟩) l.length c ∧ g < w.heap.size ∧ w.cell? ⟨g, i, none⟩ = some (.int .i64 (n : Int)) := by
  have hi : i < l.length := (List.getElem?_eq_some_iff.1 hn).1
  obtain ⟨g, cap, rfl, hg, hlt⟩ := h.form (by omega)
  have hc := h.cells (g := g) rfl i (.int .i64 (n : Int)) (by rw [List.getElem?_map, hn]; rfl)
  have hadd : ∀ j, (⟨g, 0, none⟩ : Addr).add j = ⟨g, j, none⟩ := fun j => by unfold Addr.add; split <;> simp_all
  rw [hadd] at hc
  exact ⟨g, cap, rfl, hlt, hc⟩
theorem RowsOwn.at_ {w : World} {base : Nat} {v x : Value} {l : List (List Bts)} (h : RowsOwn w base v x l) {i : Nat} {r : List Bts} (hr : l[i]? = some r) :
    ∃ g c A c', v = .slice (some ⟨g, 0, none⟩) l.length c ∧ g < w.heap.size ∧ w.cell? ⟨g, i, none⟩ = some (.slice A r.length c') ∧ Reads w w.heap.size 1 A r.length (r.map strV) := by
  obtain ⟨vs, h1, h2, _⟩ := h
  have hi : i < l.length := (List.getElem?_eq_some_iff.1 hr).1
  obtain ⟨u, hu, hs⟩ := h2 i r hr
  obtain ⟨g, cap, rfl, hg, hlt⟩ := h1.form (by omega)
  obtain ⟨A, c', rfl⟩ := own_form hs
  have hc := h1.cells (g := g) rfl i _ hu
  have hadd : ∀ j, (⟨g, 0, none⟩ : Addr).add j = ⟨g, j, none⟩ := fun j => by unfold Addr.add; split <;> simp_all
  rw [hadd] at hc
  exact ⟨g, cap, A, c', rfl, hlt, hc, Reads.of_own hs⟩
theorem goSplit_ok : ∀ (ls : List Bytes) (acc : List (Nat × List Bytes)) (n : Nat) (L : List (Nat × List Bytes)), goSplit acc n ls = .ok L →
    L.length ≤ acc.length + ls.length ∧ ∀ p ∈ L, p ∈ acc ∨ ∃ l ∈ ls, p.2 = Lib.fields (body l)
  | [], acc, n, L, h => by
    simp only [goSplit, Res.ok.injEq] at h
    subst h
    exact ⟨by simp, fun p hp => .inl hp⟩
  | l :: r, acc, n, L, h => by
    rw [goSplit_step] at h
    split at h
    · obtain ⟨h1, h2⟩ := goSplit_ok r _ _ L h
      have ha : (add acc n (Lib.fields (body l))).length ≤ acc.length + 1 := by unfold add; split <;> simp
      refine ⟨by simp; omega, fun p hp => ?_⟩
      rcases h2 p hp with h3 | ⟨l', hl', h3⟩
      · unfold add at h3
        split at h3
        · exact .inl h3
        · rcases List.mem_append.1 h3 with h3 | h3
          · exact .inl h3
          · simp at h3
            exact .inr ⟨l, by simp, by rw [h3]⟩
      · exact .inr ⟨l', List.mem_cons_of_mem _ hl', h3⟩
    · cases h
theorem split_small (s : ByteArray) (hs : s.size ≤ 60000) (L : List (Nat × List Bytes)) (h : goSplit [] 1 (lines s.data.toList) = .ok L) : L.length ≤ 60001 ∧ ∀ p ∈ L, p.2.length ≤ 1000000 := by
  obtain ⟨h1, h2⟩ := goSplit_ok _ _ _ _ h
  have hl := lines_length_le s.data.toList
  have e : s.data.toList.length = s.size := by simp
  refine ⟨by simp at h1; omega, fun p hp => ?_⟩
  rcases h2 p hp with h3 | ⟨l, hm, h3⟩
  · cases h3
  · rw [h3]
    have a1 := fields_length_le (body l)
    have a2 := body_length l
    have a3 := lines_mem _ _ hm
    omega
theorem own_len {w : World} {b e size n : Nat} {v : Value} {xs : List Value} (hv : w.ownsRow b e size v n xs) : ∃ A c, v = .slice A n c := own_form hv

set_option maxHeartbeats 400000 in
theorem ref30_long (s : ByteArray) (w : World) (hs : 60000 < s.size) :
    Calls Tryd.prog 37 #[.string s] w fun e w' => e = .returned (.tuple #[.slice none 0 0, .slice none 0 0, .int .i64 0, .int .i64 9]) ∧ w = w' := by
  have b1 : (60000 : Int) < (s.size : Int) := by omega
  go_enter Tryd.func37, Tryd.ntmps37
  go_wp2
  refine bodyPost_ret (results_tmp4 rfl _ _ _) rfl ?_
  exact ⟨rfl, rfl⟩

def LawTrue (w : World) (e : Ending) (w' : World) : Prop := e = .returned (.bool true) ∧ Below w.heap.size w w'

set_option maxHeartbeats 1000000 in
set_option maxRecDepth 100000 in
theorem splits_huge {E : Nat → Addr} (s : ByteArray) (w : World) (hE : LibIn E w) (hs : 70000 < s.size) : Calls Tryd.prog 6 #[.string s] w (LawTrue w) := by
  have b1 : (70000 : Int) < (s.size : Int) := by omega
  go_enter Tryd.func6, Tryd.ntmps6
  go_wp2_with (go_at_call 35; refine (alive30 _ hE.lib).mono ?_; rintro e w1 ⟨rfl, hb1⟩)
  go_ret
  exact ⟨rfl, hb1⟩

set_option maxHeartbeats 1000000 in
set_option maxRecDepth 100000 in
theorem splits_long {E : Nat → Addr} (s : ByteArray) (w : World) (hE : LibIn E w) (hs : 60000 < s.size) (hs2 : s.size ≤ 70000) : Calls Tryd.prog 6 #[.string s] w (LawTrue w) := by
  have b1 : ¬ (70000 : Int) < (s.size : Int) := by omega
  go_enter Tryd.func6, Tryd.ntmps6
  go_wp2_with (first
    | (go_at_call 35; refine (alive30 _ hE.lib).mono ?_; rintro e w1 ⟨rfl, hb1⟩; have hE1 := hE.below hb1 (Nat.le_refl _))
    | (go_at_call 36; refine (words_Split_long s _ hs hE1.words.e9).mono ?_; rintro e w2 ⟨rfl, nq, rfl⟩; have hE2 := hE1.drewN nq)
    | (go_at_call 37; refine (ref30_long s _ hs).mono ?_; rintro e w3 ⟨rfl, rfl⟩)
    | (go_at_call 17; refine (num_err hE2.errs 9 (by omega) (by omega)).mono ?_; rintro e w4 ⟨rfl, hb4⟩))
  refine wp_loop_rounds 1 ?_
  rw [rounds_succ]
  go_wp2
  go_ret
  exact ⟨rfl, hb1.trans ((below_drewN (Below.refl _ _) nq).trans (hb4.mono (by have := hb1.size; simp; omega)))⟩

set_option maxHeartbeats 1000000 in
set_option maxRecDepth 100000 in
theorem splits_bad {E : Nat → Addr} (s : ByteArray) (w : World) (hE : LibIn E w) (hs : s.size ≤ 60000) (n : Nat) (hn : goSplit [] 1 (lines s.data.toList) = .bad n) : Calls Tryd.prog 6 #[.string s] w (LawTrue w) := by
  have b1 : ¬ (70000 : Int) < (s.size : Int) := by omega
  have HS := fun (W : World) (hW : LibIn E W) => words_Split_short s W hs hW.words
  have HR := fun (W : World) => ref30 s W hs
  rw [ref_eq, hn] at HR
  rw [hn] at HS
  have HS' := Lib.hid HS
  have HR' := Lib.hid HR
  clear HS HR hn
  go_enter Tryd.func6, Tryd.ntmps6
  go_wp2_with (first
    | (go_at_call 35; refine (alive30 _ hE.lib).mono ?_; rintro e w1 ⟨rfl, hb1⟩; have hE1 := hE.below hb1 (Nat.le_refl _))
    | (go_at_call 36; refine (HS'.out _ hE1).mono ?_; rintro e w2 ⟨rfl, hb2⟩; have hE2 := hE1.below hb2 (Nat.le_refl _))
    | (go_at_call 37; refine (HR'.out _).mono ?_; rintro e w3 ⟨rfl, hb3⟩; have hE3 := hE2.below hb3 (Nat.le_refl _))
    | (go_at_call 17; refine (num_err hE3.errs 3 (by omega) (by omega)).mono ?_; rintro e w4 ⟨rfl, hb4⟩))
  refine wp_loop_rounds 1 ?_
  rw [rounds_succ]
  go_wp2
  go_ret
  have s1 := hb1.size
  have s2 := hb2.size
  have s3 := hb3.size
  exact ⟨rfl, hb1.trans ((hb2.mono s1).trans ((hb3.mono (by omega)).trans (hb4.mono (by omega))))⟩

set_option maxHeartbeats 2000000 in
set_option maxRecDepth 100000 in
theorem splits_ok {E : Nat → Addr} (s : ByteArray) (w : World) (hE : LibIn E w) (hs : s.size ≤ 60000) (L : List (Nat × List Bytes)) (hn : goSplit [] 1 (lines s.data.toList) = .ok L) : Calls Tryd.prog 6 #[.string s] w (LawTrue w) := by
  have b1 : ¬ (70000 : Int) < (s.size : Int) := by omega
  have HS := fun (W : World) (hW : LibIn E W) => words_Split_short s W hs hW.words
  have HR := fun (W : World) => ref30 s W hs
  rw [ref_eq, hn] at HR
  rw [hn] at HS
  have HS' := Lib.hid HS
  have HR' := Lib.hid HR
  have hLs : L.length ≤ 60001 ∧ ∀ p ∈ L, p.2.length ≤ 1000000 := split_small s hs L hn
  clear HS HR hn
  go_enter Tryd.func6, Tryd.ntmps6
  go_wp2_with (first
    | (go_at_call 35; refine (alive30 _ hE.lib).mono ?_; rintro e w1 ⟨rfl, hb1⟩; have hE1 := hE.below hb1 (Nat.le_refl _))
    | (go_at_call 36; refine (HS'.out _ hE1).mono ?_; rintro e w2 ⟨v, rfl, hL2, hb2⟩; have hE2 := hE1.below hb2 (Nat.le_refl _); obtain ⟨A0, c0, hv⟩ := own_form hL2.choose_spec.1; subst hv)
    | (go_at_call 37; refine (HR'.out _).mono ?_; rintro e w3 ⟨vn, va, vr, rfl, hR3⟩; have hb3 := hR3.below; have hL3 := hL2.below hb3 (Nat.le_refl _); obtain ⟨A1, c1, hv1⟩ := own_form hR3.nums; obtain ⟨A2, c2, hv2⟩ := own_form hR3.rows.choose_spec.1; subst hv1 hv2)
    | (go_at_call 17; refine (num_nil _).mono ?_; rintro e w4 ⟨rfl, rfl⟩))
  have s1 := hb1.size
  have s2 := hb2.size
  have s3 := hb3.size
  have hbw : Below w.heap.size w w3 := hb1.trans ((hb2.mono s1).trans (hb3.mono (by omega)))
  have hN3 := hR3.nums
  have hA3 := hR3.rows
  clear hE1 hE2 hL2 hR3 hb1 hb2 hb3
  go_loopw [10, 11, 48] (fun _ _ i wr => ∃ k : Nat, k ≤ L.length ∧ i = .int .i64 k ∧ Below w3.heap.size w3 wr) (fun _ _ i _ => L.length - (intOf i).toNat)
  case atStart => exact ⟨0, by omega, rfl, Below.refl _ _⟩
  case round =>
    obtain ⟨k, hk, rfl, hB⟩ := hrel
    by_cases hlt : k < L.length
    · have hp : L[k]? = some (L[k]'hlt) := List.getElem?_eq_getElem _
      have hpl := hLs.2 _ (List.mem_of_getElem? hp)
      generalize L[k]'hlt = p at hp hpl
      obtain ⟨g0, c0', A5, c5, e0, hg0, k1, k2, hRd⟩ := hL3.at_ hp
      obtain ⟨g1, c1', e1, hg1, k3⟩ := hN3.at_ (i := k) (n := p.1) (by rw [List.getElem?_map, hp]; rfl)
      obtain ⟨g2, c2', A6, c6, e2, hg2, k4, hRd2⟩ := hA3.at_ (i := k) (r := p.2) (by rw [List.getElem?_map, hp]; rfl)
      obtain rfl : A0 = some ⟨g0, 0, none⟩ := by injection e0
      obtain rfl : A1 = some ⟨g1, 0, none⟩ := by injection e1
      obtain rfl : A2 = some ⟨g2, 0, none⟩ := by injection e2
      clear e0 e1 e2
      have q1 := (hB.cell (p := ⟨g0, k * 2, none⟩) hg0).trans k1
      have q2 := (hB.cell (p := ⟨g0, k * 2 + 1, none⟩) hg0).trans k2
      have q3 : ∀ o, (wr.alloc o).cell? ⟨g1, k, none⟩ = some (.int .i64 (p.1 : Int)) := fun o => (World.cell?_alloc_lt wr o _ (Nat.lt_of_lt_of_le hg1 hB.size)).trans ((hB.cell (p := ⟨g1, k, none⟩) hg1).trans k3)
      have q4 : ∀ o, (wr.alloc o).cell? ⟨g2, k, none⟩ = some (.slice A6 p.2.length c6) := fun o => (World.cell?_alloc_lt wr o _ (Nat.lt_of_lt_of_le hg2 hB.size)).trans ((hB.cell (p := ⟨g2, k, none⟩) hg2).trans k4)
      have hlt' : (k : Int) < (L.length : Int) := by omega
      have hR1 := fun o => ((hRd.below hB).alloc hB.size o).more (B' := (wr.alloc o).heap.size) (by have := hB.size; simp; omega)
      have hR2 := fun o => ((hRd2.below hB).alloc hB.size o).more (B' := (wr.alloc o).heap.size) (by have := hB.size; simp; omega)
      have HR1 := Lib.hid hR1
      have HR2 := Lib.hid hR2
      clear hR1 hR2 k1 k2 k3 k4 hRd hRd2 hp
      go_wp2
      go_quiet ((go_at_call 38; exact quiet_left (same_texts _ _ _ _ _ p.2 _ ((HR1.out _).drewN _) ((HR2.out _).drewN _) hpl)))
      go_wp2
      go_roundw
      case rel => exact ⟨k + 1, by omega, by go_num, below_drewN (hB.alloc hB.size _) _⟩
      case measure => simp [intOf]; omega
    · go_wp2
      go_ret
      exact ⟨rfl, hbw.trans (hB.mono (by omega))⟩

/-- whatever the text: true -/
theorem law_splits {E : Nat → Addr} (s : ByteArray) (w : World) (hE : LibIn E w) : Calls Tryd.prog 6 #[.string s] w (LawTrue w) := by
  by_cases h1 : 70000 < s.size
  · exact splits_huge s w hE h1
  · by_cases h2 : 60000 < s.size
    · exact splits_long s w hE h2 (by omega)
    · cases h : goSplit [] 1 (lines s.data.toList) with
      | bad n => exact splits_bad s w hE (by omega) n h
      | ok L => exact splits_ok s w hE (by omega) L h
end Go.Proofs.YtienlohogdkedaaDoor
