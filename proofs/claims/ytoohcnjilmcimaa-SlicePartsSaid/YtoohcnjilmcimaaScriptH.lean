/- The chapter's example (amblerlaw31.alive), amblerlaw31.Of, and two lists of entries: by their contracts. -/
import Derived.Test.YtoohcnjilmcimaaScriptG
import Derived.Test.YtoohcnjilmcimaaScriptF
import Derived.BigRegion
import Derived.BigQuiet
namespace Go.Proofs.Ytoohcnjilmcimaa
open Go.RowKit AmS

def exScript : Bts := [112, 117, 116, 32, 49, 32, 50, 32, 48, 120, 51]
theorem ex_script : ofText exScript = .ok [⟨2, 1, 2, 3, 0⟩] := by rfl

set_option maxHeartbeats 1000000 in
theorem law31_Of (o : SOp) (w : World) : Calls Try.prog 6 #[opV o] w fun e w' => e = .returned (opV o) ∧ Below w.heap.size w w' := by
  unfold opV
  go_enter Try.func6, Try.ntmps6
  go_wp2
  refine bodyPost_ret (v := .agg #[.int .i64 o.kind, .int .u64 o.key, .int .u64 o.val, .int .u64 o.hash, .int .i64 o.iter]) (by simp [results, Try.results6, go_sem]) rfl ⟨rfl, ?_⟩
  repeat (with_reducible first | exact Below.refl _ _ | refine Below.drew ?_ | refine Below.setCell ?_ ?_ _ | refine Below.alloc ?_ ?_ _)
  all_goals simp

theorem hashCells_get (l : List SOp) (k : Nat) (o : SOp) (h : l[k]? = some o) :
    (hashCells l)[k * 3]? = some (.int .u64 o.key) ∧ (hashCells l)[k * 3 + 1]? = some (.int .u64 0) ∧ (hashCells l)[k * 3 + 2]? = some (.int .u64 o.hash) := by
  have hk : k < l.length := (List.getElem?_eq_some_iff.1 h).1
  have hl : l = l.take k ++ o :: l.drop (k + 1) := by
    have h1 := (List.getElem?_eq_some_iff.1 h).2
    rw [← h1, ← List.drop_eq_getElem_cons hk, List.take_append_drop]
  have e : hashCells l = hashCells (l.take k) ++ (entCells3 o.key 0 o.hash ++ hashCells (l.drop (k + 1))) := by
    conv => lhs; rw [hl]
    simp [hashCells]
  have hlen : (hashCells (l.take k)).length = k * 3 := by rw [hashCells_length, List.length_take]; rw [Nat.min_eq_left (by omega)]
  have H : ∀ j, j < 3 → (hashCells l)[k * 3 + j]? = (entCells3 o.key 0 o.hash)[j]? := by
    intro j hj
    rw [e, List.getElem?_append_right (by omega), hlen, List.getElem?_append_left (by simp [entCells3]; omega)]
    congr 1; omega
  exact ⟨H 0 (by omega), H 1 (by omega), H 2 (by omega)⟩
theorem ent_cells {wr : World} {B : Nat} {A : Option Addr} {n k : Nat} {l : List SOp} {o : SOp} (h : Reads wr B 3 A n (hashCells l)) (ho : l[k]? = some o) : ∃ b off, A = some ⟨b, off, none⟩ ∧ b < B ∧
    wr.cell? ⟨b, off + k * 3, none⟩ = some (.int .u64 o.key) ∧ wr.cell? ⟨b, off + k * 3 + 1, none⟩ = some (.int .u64 0) ∧ wr.cell? ⟨b, off + k * 3 + 2, none⟩ = some (.int .u64 o.hash) := by
  have hk : k < l.length := (List.getElem?_eq_some_iff.1 ho).1
  have hn : 0 < n := by have := h.1; rw [hashCells_length] at this; omega
  obtain ⟨b, off, rfl, hb, hc⟩ := h.cells_ hn
  obtain ⟨o0, o1, o2⟩ := hashCells_get l k o ho
  exact ⟨b, off, rfl, hb, hc _ _ o0, hc _ _ o1, hc _ _ o2⟩

end Go.Proofs.Ytoohcnjilmcimaa
