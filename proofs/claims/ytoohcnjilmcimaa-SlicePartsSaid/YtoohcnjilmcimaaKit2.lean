/- More words for memory: a store that changes nothing. No statement of the claim. -/
import Derived.Test.YtoohcnjilmcimaaKit
import Derived.WalkKit
import Derived.WalkSpells
import Derived.WalkLawsBesides
namespace Go.Proofs.Ytoohcnjilmcimaa
open Go.RowKit
section
variable {w w' : World} {g : Nat} {t : TypeId} {cs : Array Value}
theorem Blk.setCell_id (h : Blk w g t cs) {i : Nat} {u : Value} (hu : cs[i]? = some u) : w.setCell ⟨g, i, none⟩ u = w := by
  have e : (w.setCell ⟨g, i, none⟩ u).heap = w.heap := by
    apply Array.ext_getElem?
    intro j
    by_cases hj : j = g
    · subst hj
      have h1 := h.set_ i u
      unfold Blk at h1 h
      rw [h1, h]
      have : cs.setIfInBounds i u = cs := by
        apply Array.ext_getElem?
        intro k
        rw [Array.getElem?_setIfInBounds]
        split
        · next hk => subst hk; split
                     · exact hu.symm
                     · next hlt => rw [Array.getElem?_eq_none (by omega)] at hu; cases hu
        · rfl
      rw [this]
    · exact Below.heap_setCell w _ u j hj
  cases w
  simp only [World.setCell] at e ⊢
  rw [e]
end
/-- 'x[i:]' -/
theorem slice_from {P : Program} {t e : TypeId} {size : Nat} (hu : P.underlying t = some (.slice e)) (hs : ∀ w, (sizeOf e).run P w = .ok size w) (b off n c i : Nat) (hi : i ≤ n) (W : World) :
    (Instr.slice t (.slice (some ⟨b, off, none⟩) n c) (some (.int .i64 (i : Int))) none none).run P W = .ok (.slice (if c = i then some ⟨b, off, none⟩ else some ⟨b, off + i * size, none⟩) (n - i) (c - i)) W := by
  simp [Instr.slice, run_underlying hu, go_sem, hs]
  intro h; omega
theorem slice_from' {P : Program} {t e : TypeId} {size : Nat} (hu : P.underlying t = some (.slice e)) (hs : ∀ w, (sizeOf e).run P w = .ok size w) (b off n c i : Nat) (hi : i ≤ n) (hc : n ≤ c) :
    ∃ A, (∀ W, (Instr.slice t (.slice (some ⟨b, off, none⟩) n c) (some (.int .i64 (i : Int))) none none).run P W = .ok (.slice A (n - i) (c - i)) W) ∧ (i < n → A = some ⟨b, off + i * size, none⟩) :=
  ⟨_, fun W => slice_from hu hs b off n c i hi W, fun h => if_neg (by omega)⟩
/-- 'x[:j]' -/
theorem slice_to {P : Program} {t e : TypeId} {size : Nat} (hu : P.underlying t = some (.slice e)) (hs : ∀ w, (sizeOf e).run P w = .ok size w) (A : Option Addr) (n c j : Nat) (hj : j ≤ c) (W : World) :
    (Instr.slice t (.slice A n c) none (some (.int .i64 (j : Int))) none).run P W = .ok (.slice A j c) W := by
  cases A <;> simp [Instr.slice, run_underlying hu, go_sem, hs]
  all_goals (intro h; omega)
end Go.Proofs.Ytoohcnjilmcimaa
