/- Rows of operations in memory. No statement of the claim. -/
import Derived.Test.YtoohcnjilmcimaaProg
import Derived.Test.YtoohcnjilmcimaaKit
import Derived.Test.YtoohcnjilmcimaaSliceP
import Derived.KernelRfl
namespace Go.Proofs.Ytoohcnjilmcimaa
open Go.RowKit AmS

def opCells (o : SOp) : List Value := [.int .i64 o.kind, .int .u64 o.key, .int .u64 o.val, .int .u64 o.hash, .int .i64 o.iter]
def opV (o : SOp) : Value := .agg #[.int .i64 o.kind, .int .u64 o.key, .int .u64 o.val, .int .u64 o.hash, .int .i64 o.iter]
def opsCells (l : List SOp) : List Value := l.flatMap opCells
theorem opsCells_length (l : List SOp) : (opsCells l).length = l.length * 5 := by
  induction l with
  | nil => rfl
  | cons o t ih =>
    have : (opsCells (o :: t)).length = 5 + (opsCells t).length := by simp [opsCells, opCells]; omega
    rw [this, ih, List.length_cons]; omega
theorem opsCells_get (l : List SOp) (k : Nat) (o : SOp) (h : l[k]? = some o) :
    (opsCells l)[k * 5]? = some (.int .i64 o.kind) ∧ (opsCells l)[k * 5 + 1]? = some (.int .u64 o.key) ∧ (opsCells l)[k * 5 + 2]? = some (.int .u64 o.val) ∧
    (opsCells l)[k * 5 + 3]? = some (.int .u64 o.hash) ∧ (opsCells l)[k * 5 + 4]? = some (.int .i64 o.iter) := by
  have hk : k < l.length := (List.getElem?_eq_some_iff.1 h).1
  have hl : l = l.take k ++ o :: l.drop (k + 1) := by
    have h1 := (List.getElem?_eq_some_iff.1 h).2
    rw [← h1, ← List.drop_eq_getElem_cons hk, List.take_append_drop]
  have e : opsCells l = opsCells (l.take k) ++ (opCells o ++ opsCells (l.drop (k + 1))) := by
    conv => lhs; rw [hl]
    simp [opsCells]
  have hlen : (opsCells (l.take k)).length = k * 5 := by rw [opsCells_length, List.length_take]; rw [Nat.min_eq_left (by omega)]
  have H : ∀ j, j < 5 → (opsCells l)[k * 5 + j]? = (opCells o)[j]? := by
    intro j hj
    rw [e, List.getElem?_append_right (by omega), hlen, List.getElem?_append_left (by simp [opCells]; omega)]
    congr 1; omega
  refine ⟨?_, ?_, ?_, ?_, ?_⟩
  · exact H 0 (by omega)
  · exact H 1 (by omega)
  · exact H 2 (by omega)
  · exact H 3 (by omega)
  · exact H 4 (by omega)

theorem op_cells {wr : World} {B : Nat} {A : Option Addr} {n k : Nat} {l : List SOp} {o : SOp} (h : Reads wr B 5 A n (opsCells l)) (ho : l[k]? = some o) : ∃ b off, A = some ⟨b, off, none⟩ ∧ b < B ∧
    wr.cell? ⟨b, off + k * 5, none⟩ = some (.int .i64 o.kind) ∧ wr.cell? ⟨b, off + k * 5 + 1, none⟩ = some (.int .u64 o.key) ∧ wr.cell? ⟨b, off + k * 5 + 2, none⟩ = some (.int .u64 o.val) ∧
    wr.cell? ⟨b, off + k * 5 + 3, none⟩ = some (.int .u64 o.hash) ∧ wr.cell? ⟨b, off + k * 5 + 4, none⟩ = some (.int .i64 o.iter) := by
  have hk : k < l.length := (List.getElem?_eq_some_iff.1 ho).1
  have hn : 0 < n := by have := h.1; rw [opsCells_length] at this; omega
  obtain ⟨b, off, rfl, hb, hc⟩ := h.cells_ hn
  obtain ⟨o0, o1, o2, o3, o4⟩ := opsCells_get l k o ho
  exact ⟨b, off, rfl, hb, hc _ _ o0, hc _ _ o1, hc _ _ o2, hc _ _ o3, hc _ _ o4⟩

theorem info_Op : (Try.prog.info? 29).map (fun i => (i.zero, i.size, i.bytes)) = some (some (.agg #[.int .i64 0, .int .u64 0, .int .u64 0, .int .u64 0, .int .i64 0]), 5, 40) := by kernel_rfl
theorem slty_Op : SlTy Try.prog 22 29 5 40 := slTy Try.underlying22 info_Op rfl (by decide) (by decide)
/-- the block of a parameter of its own -/
def opBlk (o : SOp) : Obj := .cells #[.int .i64 o.kind, .int .u64 o.key, .int .u64 o.val, .int .u64 o.hash, .int .i64 o.iter] 29
/-- the numbers are within their kinds -/
def opWf (o : SOp) : Prop := -9223372036854775808 ≤ o.kind ∧ o.kind < 9223372036854775808 ∧ 0 ≤ o.key ∧ o.key < 18446744073709551616 ∧ 0 ≤ o.val ∧ o.val < 18446744073709551616 ∧ 0 ≤ o.hash ∧ o.hash < 18446744073709551616 ∧
  -9223372036854775808 ≤ o.iter ∧ o.iter < 9223372036854775808
theorem min_u64 : IntKind.u64.min = 0 := by decide
theorem max_u64 : IntKind.u64.max = 18446744073709551615 := by decide
theorem min_i64 : IntKind.i64.min = -9223372036854775808 := by decide
theorem max_i64 : IntKind.i64.max = 9223372036854775807 := by decide
theorem wf_u64 {x : Int} (h0 : 0 ≤ x) (h1 : x < 18446744073709551616) : (Lit.int .u64 x).wf = true := by
  unfold Lit.wf
  simp only [min_u64, max_u64, Bool.and_eq_true, decide_eq_true_eq]
  omega
theorem wf_i64 {x : Int} (h0 : -9223372036854775808 ≤ x) (h1 : x < 9223372036854775808) : (Lit.int .i64 x).wf = true := by
  unfold Lit.wf
  simp only [min_i64, max_i64, Bool.and_eq_true, decide_eq_true_eq]
  omega
theorem take_snoc_op {l : List SOp} {k : Nat} {o : SOp} (h : l[k]? = some o) : l.take (k + 1) = l.take k ++ [o] := by
  rw [List.take_add_one, h]; rfl
theorem drop_op {l : List SOp} {k : Nat} {o : SOp} (h : l[k]? = some o) : l.drop k = o :: l.drop (k + 1) := by
  obtain ⟨h1, h2⟩ := List.getElem?_eq_some_iff.1 h
  rw [List.drop_eq_getElem_cons h1, h2]
end Go.Proofs.Ytoohcnjilmcimaa
