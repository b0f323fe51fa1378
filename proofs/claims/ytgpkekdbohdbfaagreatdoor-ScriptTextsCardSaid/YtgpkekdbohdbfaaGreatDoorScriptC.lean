/- script.Hashes by its contract. -/
import Derived.Test.YtgpkekdbohdbfaaGreatDoorScriptB
namespace Go.Proofs.YtgpkekdbohdbfaaGreatDoor
open Go.RowKit AmS Go.Maps

/-- an entry's cells -/
def entCells3 (k v h : Int) : List Value := [.int .u64 k, .int .u64 v, .int .u64 h]
/-- the entries of operations: key, 0, hash -/
def hashCells (l : List SOp) : List Value := l.flatMap fun o => entCells3 o.key 0 o.hash
theorem hashCells_length (l : List SOp) : (hashCells l).length = l.length * 3 := by
  induction l with
  | nil => rfl
  | cons o t ih =>
    have : (hashCells (o :: t)).length = 3 + (hashCells t).length := by simp [hashCells, entCells3]; omega
    rw [this, ih, List.length_cons]; omega
/-- how many there are of a key, as the program counts them -/
def cntF (l : List SOp) (y : Int) : Option Int := if cnt l y = 0 then none else some (cnt l y : Int)
theorem cntF_get (l : List SOp) (y : Int) : (cntF l y).getD 0 = (cnt l y : Int) := by
  unfold cntF
  split
  · next h => rw [h]; rfl
  · rfl
theorem cntF_snoc {l : List SOp} {o : SOp} (h : keyedP o.kind = true) : cntF (l ++ [o]) = fun y => if y = o.key then some ((cnt l o.key : Int) + 1) else cntF l y := by
  funext y
  unfold cntF
  rw [cnt_snoc, h]
  by_cases hy : y = o.key
  · subst hy; simp
  · have : (o.key == y) = false := by simp; exact fun e => hy e.symm
    simp [this, hy]
theorem cntF_same {l : List SOp} {o : SOp} (h : keyedP o.kind = false) : cntF (l ++ [o]) = cntF l := by
  funext y
  unfold cntF
  rw [cnt_snoc, h]
  simp

theorem own_lower {w : World} {base base' e size n : Nat} {v : Value} {xs : List Value} (h : w.ownsRow base e size v n xs) (hb : base' ≤ base) : w.ownsRow base' e size v n xs := by
  refine ⟨h.1, ?_⟩
  rcases h.2 with h2 | ⟨g, cap, cur, hv, hg, r⟩
  · exact .inl h2
  · exact .inr ⟨g, cap, cur, hv, by omega, r⟩
/-- a map's block is no row -/
theorem own_map {w w1 : World} {base e size n b : Nat} {v : Value} {xs : List Value} (h : w.ownsRow base e size v n xs) (hg : w.grownBy w1 (some b)) (hb : b < base) : w1.ownsRow base e size v n xs := by
  refine h.kept hg ?_
  cases hv : v.ownBlock with
  | none => exact .inl rfl
  | some k =>
    have hk := h.lt k hv
    right
    intro e
    injection e with e
    rcases h.2 with ⟨rfl, _⟩ | ⟨g, cap, cur, rfl, hg2, _⟩
    · simp [Value.ownBlock] at hv
    · have : g = k := by simpa [Value.ownBlock] using hv
      omega

end Go.Proofs.YtgpkekdbohdbfaaGreatDoor
