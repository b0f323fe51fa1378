/- amblerlaw30.WordsSplits: its walk: whatever the text, true. -/
import Derived.Test.YtoohcnjilmcimaaAlive30
import Derived.Test.YtoohcnjilmcimaaWordsR
import Derived.Test.YtoohcnjilmcimaaErrs
namespace Go.Proofs.Ytoohcnjilmcimaa
open Go.RowKit AmW

theorem IntsOwn.at_ {w : World} {base : Nat} {v : Value} {l : List Nat} (h : IntsOwn w base v l) {i n : Nat} (hn : l[i]? = some n) :
    ∃ g c, v = .slice (some ⟨g, 0, none⟩) l.length c ∧ g < w.heap.size ∧ w.cell? ⟨g, i, none⟩ = some (.int .i64 (n : Int)) := by
  have hi : i < l.length := (List.getElem?_eq_some_iff.1 hn).1
  obtain ⟨g, cap, rfl, hg, hlt⟩ := h.form (by omega)
  have hc := h.cells (g := g) rfl i (.int .i64 (n : Int)) (by rw [List.getElem?_map, hn]; rfl)
  have hadd : ∀ j, (⟨g, 0, none⟩ : Addr).add j = ⟨g, j, none⟩ := fun j => by unfold Addr.add; split <;> simp_all
  rw [hadd] at hc
  exact ⟨g, cap, rfl, hlt, hc⟩
theorem goSplit_ok : ∀ (ls : List Bytes) (acc : List (Nat × List Bytes)) (n : Nat) (L : List (Nat × List Bytes)), goSplit acc n ls = .ok L →
    L.length ≤ acc.length + ls.length ∧ ∀ p ∈ L, p ∈ acc ∨ ∃ l ∈ ls, p.2 = Lib.fields (body l)
  | [], acc, n, L, h => by
    simp only [goSplit, Res.ok.injEq] at h
    subst h
    exact ⟨by simp, fun p hp => .inl hp⟩
  | l :: r, acc, n, L, h => by
    rw [goSplit_step] at h
    split at h
    · obtain ⟨h1, h2⟩ := goSplit_ok r _ _ L h
      have ha : (add acc n (Lib.fields (body l))).length ≤ acc.length + 1 := by unfold add; split <;> simp
      refine ⟨by simp; omega, fun p hp => ?_⟩
      rcases h2 p hp with h3 | ⟨l', hl', h3⟩
      · unfold add at h3
        split at h3
        · exact .inl h3
        · rcases List.mem_append.1 h3 with h3 | h3
          · exact .inl h3
          · simp at h3
            exact .inr ⟨l, by simp, by rw [h3]⟩
      · exact .inr ⟨l', List.mem_cons_of_mem _ hl', h3⟩
    · cases h
theorem split_small (s : ByteArray) (hs : s.size ≤ 60000) (L : List (Nat × List Bytes)) (h : goSplit [] 1 (lines s.data.toList) = .ok L) : L.length ≤ 60001 ∧ ∀ p ∈ L, p.2.length ≤ 1000000 := by
  obtain ⟨h1, h2⟩ := goSplit_ok _ _ _ _ h
  have hl := lines_length_le s.data.toList
  have e : s.data.toList.length = s.size := by simp
  refine ⟨by simp at h1; omega, fun p hp => ?_⟩
  rcases h2 p hp with h3 | ⟨l, hm, h3⟩
  · cases h3
  · rw [h3]
    have a1 := fields_length_le (body l)
    have a2 := body_length l
    have a3 := lines_mem _ _ hm
    omega
theorem own_len {w : World} {b e size n : Nat} {v : Value} {xs : List Value} (hv : w.ownsRow b e size v n xs) : ∃ A c, v = .slice A n c := own_form hv

def LawTrue (w : World) (e : Ending) (w' : World) : Prop := e = .returned (.bool true) ∧ Below w.heap.size w w'

end Go.Proofs.Ytoohcnjilmcimaa
