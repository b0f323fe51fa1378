/- amblerlaw21.CoreGroups: its walk: whatever the configuration, the hashes and the acts, true. -/
import Derived.Test.YtcgjgfgkdoohlaaGreatDoorCoCW
import Derived.Test.YtcgjgfgkdoohlaaGreatDoorSqT
import Derived.Test.YtcgjgfgkdoohlaaGreatDoorLaneP
import Derived.Test.YtcgjgfgkdoohlaaGreatDoorCoCV
import Derived.Deep.Cut
import Derived.Deep.CutRange
namespace Go.Proofs.YtcgjgfgkdoohlaaGreatDoor
set_option maxRecDepth 100000
set_option maxHeartbeats 8000000
open Go.RowKit AmC
variable {W0 w : World} {K M j mb : Nat} {G ids l : List Nat} {E : Nat → Addr} {H : Nat → Nat}
theorem act_cells {base m : Nat} {B : Option Addr} {acts : List LAct} (hR : Reads w base 3 B m (acts.flatMap LAct.cells)) (hm : acts.length = m) {a : LAct} (hj : acts[j]? = some a) : ∃ g off, B = some ⟨g, off, none⟩ ∧ g < base ∧ w.cell? ⟨g, off + j * 3, none⟩ = some (.int .i64 a.kind) ∧ w.cell? ⟨g, off + j * 3 + 1, none⟩ = some (.int .i64 a.key) ∧ w.cell? ⟨g, off + j * 3 + 2, none⟩ = some (.int .i64 a.n) := by
 have hjl := get_lt hj
 obtain ⟨g, off, h1, h2, h3⟩ := hR.2 (by omega)
 have hat : ∀ q u, a.cells[q]? = some u → (acts.flatMap LAct.cells)[j * 3 + q]? = some u := fun q u hu => by
  have hq : q < 3 := by have := get_lt hu; simpa [LAct.cells] using this
  obtain ⟨e1, _⟩ := list_at hj
  have e2 : acts.flatMap LAct.cells = (acts.take j).flatMap LAct.cells ++ (a.cells ++ (acts.drop (j + 1)).flatMap LAct.cells) := by
   have : acts.flatMap LAct.cells = (acts.take j ++ a :: acts.drop (j + 1)).flatMap LAct.cells := by rw [← e1]
   rw [this]; simp
  have e3 : ((acts.take j).flatMap LAct.cells).length = j * 3 := by
   have : ∀ l : List LAct, (l.flatMap LAct.cells).length = l.length * 3 := fun l => by
    induction l with
    | nil => rfl
    | cons x l ih => simp only [List.flatMap_cons, List.length_append, List.length_cons, ih]; simp [LAct.cells]; omega
   rw [this, List.length_take]; omega
  rw [e2, List.getElem?_append_right (by omega), e3, Nat.add_sub_cancel_left, List.getElem?_append_left (by simpa [LAct.cells] using hq)]
  exact hu
 exact ⟨g, off, h1, h2, h3 _ _ (hat 0 _ rfl), by rw [Nat.add_assoc]; exact h3 _ _ (hat 1 _ rfl), by rw [Nat.add_assoc]; exact h3 _ _ (hat 2 _ rfl)⟩
def lawH (l : List Nat) (k : Nat) : Nat := l.getD k 0
theorem lawH_lt (h : ∀ x ∈ l, x < 18446744073709551616) (k : Nat) : lawH l k < 18446744073709551616 := by
 unfold lawH
 rw [List.getD_eq_getElem?_getD]
 cases hk : l[k]? with
 | none => decide
 | some x => exact h x (List.mem_of_getElem? hk)
theorem entOf_ok (h : ∀ x ∈ l, x < 18446744073709551616) (hn : 1 ≤ l.length ∧ l.length ≤ 220) (a : LAct) : EntOk (lawH l) (entOf l a) := by
 refine ⟨rfl, lawH_lt h _, ?_, ?_⟩
 ·have : iOf a.key l.length < l.length := Nat.mod_lt _ (by omega)
  show iOf a.key l.length < _
  omega
 ·show (a.n % 18446744073709551616).toNat < _
  omega
theorem cfg_nat {k m i : Int} (h : cfgOk k m i = true) : ∃ K M I : Nat, (1 ≤ K ∧ K ≤ 64) ∧ (1 ≤ M ∧ M ≤ 192) ∧ k = (K : Int) ∧ m = (M : Int) ∧ i = (I : Int) := by
 unfold cfgOk inB at h
 simp only [Bool.and_eq_true, decide_eq_true_eq] at h
 exact ⟨k.toNat, m.toNat, i.toNat, by omega, by omega, by omega, by omega, by omega⟩
def Keeps (a a' : Pool) : Prop := ∀ mx, GB mx a → a'.ents.length ≤ mx → GB mx a'
theorem fewer_rounds {m : Nat} (h : j < m) : m - (intOf (.int .i64 ((j : Int) + 1))).toNat < m - (intOf (.int .i64 (j : Int))).toNat := by
 show m - ((j : Int) + 1).toNat < m - (j : Int).toNat
 omega
end Go.Proofs.YtcgjgfgkdoohlaaGreatDoor
