/- script.Of by its contract. -/
import Derived.Test.YtoohcnjilmcimaaScriptE
import Derived.Test.YtoohcnjilmcimaaScriptC
import Derived.Test.YtoohcnjilmcimaaBackW
import Derived.Test.YtoohcnjilmcimaaLaw30a
namespace Go.Proofs.Ytoohcnjilmcimaa
open Go.RowKit AmS AmD AmW

theorem one_eq (x : Bts) (r : List Bts) (k : Nat) (hk : kindOf x = k) (hk1 : 1 ≤ k) (hr : r.length = manyOf k) : one (x :: r) = (match numsE k [] r with | .error e => .error e | .ok ns => .ok (opOf k ns)) := by
  unfold one
  simp only
  rw [if_neg (by omega), if_neg (by rw [hk]; simp [hr]), hk]
  cases numsE k [] r <;> rfl
/-- operations in memory of the call's own -/
def OpsOwn (w : World) (base : Nat) (v : Value) (l : List SOp) : Prop := w.ownsRow base 29 5 v l.length (opsCells l)
theorem OpsOwn.reads {w : World} {base n c : Nat} {A : Option Addr} {l : List SOp} (h : OpsOwn w base (.slice A n c) l) : n = l.length ∧ Reads w w.heap.size 5 A l.length (opsCells l) := by
  have hn : n = l.length := by
    have := own_form h
    obtain ⟨A', c', e⟩ := this
    injection e
  subst hn
  exact ⟨rfl, Reads.of_own h⟩
theorem opsCells_snoc (l : List SOp) (o : SOp) : opsCells (l ++ [o]) = opsCells l ++ opCells o := by simp [opsCells]
theorem OpsOwn.append {w' : World} {base : Nat} {v' : Value} {l : List SOp} {o : SOp} (hown : w'.ownsRow base 29 5 v' (l.length + 1) (opsCells l ++ opCells o)) : OpsOwn w' base v' (l ++ [o]) := by
  unfold OpsOwn
  rw [List.length_append, opsCells_snoc]
  exact hown
theorem OpsOwn.below {w w1 : World} {base B : Nat} {v : Value} {l : List SOp} (h : OpsOwn w base v l) (hb : Below B w w1) (hB : w.heap.size ≤ B) : OpsOwn w1 base v l := own_below h hb hB

theorem join_word : ∀ (r : List AmW.Bytes) (y : AmW.Bytes), y ∈ r → y.length ≤ (Lib.join r [32]).length
  | [], _, h => by cases h
  | [x], y, h => by
    obtain rfl : y = x := by simpa using h
    rw [Lib.join_one]; exact Nat.le_refl _
  | x :: z :: r, y, h => by
    rw [join_cons2, List.length_append, List.length_cons]
    rcases List.mem_cons.1 h with rfl | h
    · omega
    · have := join_word (z :: r) y h
      omega
theorem joined_line : ∀ (L : List (Nat × List AmW.Bytes)) (p : Nat × List AmW.Bytes), p ∈ L → (Lib.join p.2 [32]).length ≤ (joined L).length
  | [], _, h => by cases h
  | q :: L, p, h => by
    have e : (joined (q :: L)).length = (Lib.join q.2 [32]).length + 1 + (joined L).length := by simp [joined]; omega
    rcases List.mem_cons.1 h with rfl | h
    · omega
    · have := joined_line L p h
      omega
theorem one_wf {l : List Bts} {o : SOp} (h : one l = .ok o) : opWf o := by
  obtain ⟨h1, h2, h3, h4, h5, h6, h7⟩ := one_right h
  have hk := kinds8' (right_kind' h1)
  have hi : 0 ≤ o.iter ∧ o.iter ≤ 1000000 := by
    unfold rightB at h1
    simp only [Bool.and_eq_true, decide_eq_true_eq] at h1
    exact ⟨h1.1.1.1.1.2, h1.1.1.1.2⟩
  exact ⟨by omega, by omega, h2, h3, h4, h5, h6, h7, by omega, by omega⟩
/-- where the loop of script.Of stands -/
structure OfAt (w W : World) (L : List (Nat × List AmW.Bytes)) (R : Except (Nat × Nat) (List SOp)) (k : Nat) (ops : List SOp) (v : Value) (wr : World) : Prop where
  own : OpsOwn wr W.heap.size v ops
  rest : ofGo ops (L.drop k) = R
  len : ops.length = k
  below : Below W.heap.size W wr
theorem drop_line {L : List (Nat × List AmW.Bytes)} {j : Nat} {y : Nat × List AmW.Bytes} (h : L[j]? = some y) : L.drop j = y :: L.drop (j + 1) := by
  obtain ⟨h1, h2⟩ := List.getElem?_eq_some_iff.1 h
  rw [List.drop_eq_getElem_cons h1, h2]

end Go.Proofs.Ytoohcnjilmcimaa
