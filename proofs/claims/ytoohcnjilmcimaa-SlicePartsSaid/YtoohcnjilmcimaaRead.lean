/- What a row's arguments and variables read as: slices of operations, slices of strings, an array of strings: opened to cells. -/
import Derived.Test.YtoohcnjilmcimaaLaid
import Derived.Test.YtoohcnjilmcimaaTexts
import Derived.Test.YtoohcnjilmcimaaOps
import Derived.Test.YtoohcnjilmcimaaScriptD
import Derived.Deep.Strs
import Derived.OpenShut
import Derived.Carry
namespace Go.Proofs.Ytoohcnjilmcimaa
open Go.RowKit Go.ChangeShapes Go.WideShapes Go.ChangeAt Go.Deep AmS

section
variable {H : Type} {enc : TypeId × Value → H} {P : Program} {w : World} {base : Nat} {spare : Nat → Bool} {held : Bool} {fuel : Nat}

/-- an array of strings that reads as those strings -/
theorem strs_cells {n : Nat} {t e : TypeId} (ht : P.underlying t = some (.array n e)) (he : P.underlying e = some .string) (hc : P.cellsOf e = 1) {cs : List Value} {l : List (List UInt8)} {p : List MemPlace}
    (h : DataW.trod enc P w base spare held fuel t cs = some (.agg (l.map fun b => DataW.lit (Lit.string b)), p)) : ∀ (i : Nat) (b : List UInt8), l[i]? = some b → cs[i]? = some (Value.string ⟨b.toArray⟩) := by
  obtain ⟨xs, m, rfl, hx, hl, hxs, hf⟩ := DataW.trod_array ht h
  intro i b hb
  have hx1 : xs.map (·.1) = l.map fun b => (DataW.lit (Lit.string b) : DataW H) := by
    have := congrArg Prod.fst hx
    simp only at this
    injection this with this
    exact this.symm
  have hlen : xs.length = l.length := by have := congrArg List.length hx1; simpa using this
  have hi : i < l.length := (List.getElem?_eq_some_iff.1 hb).1
  have h1 := hf i (by omega)
  rw [hc, Nat.mul_one, List.getElem?_eq_getElem (by omega)] at h1
  obtain ⟨s, hs1, hs2, _⟩ := DataW.trod_string he h1
  have h2 : (xs.map (·.1))[i]? = some (DataW.lit (Lit.string b)) := by rw [hx1, List.getElem?_map, hb]; rfl
  rw [List.getElem?_map, List.getElem?_eq_getElem (by omega), hs2] at h2
  simp only [Option.map_some, Option.some.injEq] at h2
  injection h2 with h2
  injection h2 with h2
  have h3 := congrArg (·[0]?) hs1
  simp only [List.getElem?_take, List.getElem?_drop, List.getElem?_cons_zero] at h3
  rw [if_pos (by omega), Nat.add_zero] at h3
  rw [h3, ← h2]
end

set_option maxRecDepth 100000
section
variable {H : Type} {enc : TypeId × Value → H} {w : World} {base : Nat} {spare : Nat → Bool} {held : Bool} {fuel : Nat}
theorem wf_i64_of {n : Int} (h : (Lit.int .i64 n).wf = true) : -9223372036854775808 ≤ n ∧ n < 9223372036854775808 := by have := Go.bounds_i64 h; omega
theorem wf_u64_of {n : Int} (h : (Lit.int .u64 n).wf = true) : 0 ≤ n ∧ n < 18446744073709551616 := by have := Go.bounds_u64 h; omega
/-- an operation, opened -/
theorem op_trod {cs : List Value} {x : DataW H × List MemPlace} (h : DataW.trod enc Try.prog w base spare held fuel 29 cs = some x) : ∃ o : SOp, cs = opCells o ∧ opWf o := by
  obtain ⟨xs, m, rfl, rfl, hl, hxs, hf⟩ := DataW.trod_struct Try.underlying29 h
  have hc1 : Try.prog.cellsOf 3 = 1 := by kernel_rfl
  have hc2 : Try.prog.cellsOf 27 = 1 := by kernel_rfl
  have hc5 : Try.prog.cellsOf 29 = 5 := by kernel_rfl
  rw [hc5] at hl
  have hx5 : xs.length = 5 := hxs
  have f0 : DataW.trod enc Try.prog w base spare held m 3 ((cs.drop 0).take (Try.prog.cellsOf 3)) = xs[0]? := hf 0 _ rfl
  have f1 : DataW.trod enc Try.prog w base spare held m 27 ((cs.drop 1).take (Try.prog.cellsOf 27)) = xs[1]? := hf 1 _ rfl
  have f2 : DataW.trod enc Try.prog w base spare held m 27 ((cs.drop 2).take (Try.prog.cellsOf 27)) = xs[2]? := hf 2 _ rfl
  have f3 : DataW.trod enc Try.prog w base spare held m 27 ((cs.drop 3).take (Try.prog.cellsOf 27)) = xs[3]? := hf 3 _ rfl
  have f4 : DataW.trod enc Try.prog w base spare held m 3 ((cs.drop 4).take (Try.prog.cellsOf 3)) = xs[4]? := hf 4 _ rfl
  rw [hc1] at f0 f4
  rw [hc2] at f1 f2 f3
  rw [List.getElem?_eq_getElem (by omega)] at f0 f1 f2 f3 f4
  obtain ⟨n0, q0, _, w0⟩ := DataW.trod_int Try.underlying3 f0
  obtain ⟨n1, q1, _, w1⟩ := DataW.trod_int Try.underlying27 f1
  obtain ⟨n2, q2, _, w2⟩ := DataW.trod_int Try.underlying27 f2
  obtain ⟨n3, q3, _, w3⟩ := DataW.trod_int Try.underlying27 f3
  obtain ⟨n4, q4, _, w4⟩ := DataW.trod_int Try.underlying3 f4
  obtain ⟨y0, y1⟩ := wf_i64_of w0
  obtain ⟨y2, y3⟩ := wf_u64_of w1
  obtain ⟨y4, y5⟩ := wf_u64_of w2
  obtain ⟨y6, y7⟩ := wf_u64_of w3
  obtain ⟨y8, y9⟩ := wf_i64_of w4
  have hw : opWf ⟨n0, n1, n2, n3, n4⟩ := by unfold opWf; exact ⟨y0, y1, y2, y3, y4, y5, y6, y7, y8, y9⟩
  refine ⟨⟨n0, n1, n2, n3, n4⟩, ?_, hw⟩
  match cs, hl with
  | [a, b, c, d, e], _ =>
    simp at q0 q1 q2 q3 q4
    simp [opCells, q0, q1, q2, q3, q4]

theorem opsCells_at {O : Nat → SOp} {n : Nat} : ∀ {i : Nat}, i < n → ∀ j, j < 5 → (opsCells ((List.range n).map O))[i * 5 + j]? = (opCells (O i))[j]? := by
  intro i hi j hj
  obtain ⟨o0, o1, o2, o3, o4⟩ := opsCells_get ((List.range n).map O) i (O i) (by simp [hi])
  match j, hj with
  | 0, _ => exact o0
  | 1, _ => exact o1
  | 2, _ => exact o2
  | 3, _ => exact o3
  | 4, _ => exact o4
instance : Inhabited SOp := ⟨⟨0, 0, 0, 0, 0⟩⟩
/-- a slice of operations that came in -/
theorem open_ops {v : Value} {d : DataW H} {p : List MemPlace} (ho : Value.okWide Try.prog w .any base 22 v) (h : DataW.Trod enc Try.prog w 0 (fun _ => true) true 22 v d p) :
    ∃ A n c l, v = .slice A n c ∧ n ≤ c ∧ Reads w w.heap.size 5 A n (opsCells l) ∧ ∀ o ∈ l, opWf o := by
  obtain ⟨a0, len0, cap0, rfl⟩ := okWide_slice Try.underlying22 ho
  obtain ⟨fuel, hf⟩ := h
  have hc5 : Try.prog.cellsOf 29 = 5 := by kernel_rfl
  rcases open_slice Try.underlying22 hf with ⟨hcs, _⟩ | ⟨a, len, cap, m, k, D, Pl, hcs, _, hl, _, hm, _, hx⟩
  · simp [Value.cells] at hcs
    obtain ⟨rfl, rfl, rfl⟩ := hcs
    refine ⟨none, 0, 0, [], rfl, Nat.le_refl _, ?_, fun _ h => absurd h List.not_mem_nil⟩
    exact Reads.none_
  · simp [Value.cells] at hcs
    obtain ⟨rfl, rfl, rfl⟩ := hcs
    simp only [if_true] at hm
    rw [hc5] at hx
    obtain ⟨O, hO⟩ := choose_lt (α := SOp) (n := len0) (p := fun i o => opWf o ∧ ∀ j, j < 5 → w.cell? ((a.add (i * 5)).add j) = (opCells o)[j]?) (fun i hi => by
      obtain ⟨cs', h1, h2⟩ := hx i (by omega)
      obtain ⟨_, _, hcell⟩ := World.cells?_some h1
      obtain ⟨o, rfl, hw⟩ := op_trod h2
      exact ⟨o, hw, hcell⟩)
    refine ⟨some a, len0, cap0, (List.range len0).map O, rfl, hl, ⟨by rw [opsCells_length]; simp, fun hn => ?_⟩, fun o ho => ?_⟩
    · obtain ⟨b, off, spot⟩ := a
      have h00 := (hO 0 (by omega)).2 0 (by omega)
      have hspot : spot = none := by simpa [Addr.add] using World.cell?_spot (h00.trans rfl)
      subst hspot
      refine ⟨b, off, rfl, by simpa [Addr.add] using World.block_lt_of_cell? w _ (h00.trans rfl), fun j u hu => ?_⟩
      have hj : j < len0 * 5 := by have := (List.getElem?_eq_some_iff.1 hu).1; rw [opsCells_length] at this; simpa using this
      have h1 := (hO (j / 5) (by omega)).2 (j % 5) (by omega)
      rw [← opsCells_at (n := len0) (by omega) _ (by omega), show j / 5 * 5 + j % 5 = j by omega, hu] at h1
      rw [add_plain, add_plain, show off + j / 5 * 5 + j % 5 = off + j by omega] at h1
      exact h1
    · obtain ⟨i, hi, rfl⟩ := List.mem_map.1 ho
      exact (hO i (by simpa using hi)).1

end
end Go.Proofs.Ytoohcnjilmcimaa
