/- How a pair of numbers reads. No statement of the claim. -/
import Derived.Test.YtcgjgfgkdoohlaaGreatDoorRead21
namespace Go.Proofs.YtcgjgfgkdoohlaaGreatDoor
open Go.ChangeShapes Go.WideShapes Go.ChangeAt Go.RowKit Go.Deep AmC
section
variable {H : Type} {enc : TypeId × Value → H} {w : World} {base : Nat} {spare : Nat → Bool} {held : Bool} {fuel : Nat}
set_option maxRecDepth 100000 in
theorem open_pair {r : Reach} {b0 : Nat} {v : Value} {d : DataW H} {p : List MemPlace} (hv : Value.okWide Tryz.prog w r b0 60 v) (h : DataW.Trod enc Tryz.prog w base spare held 60 v d p) : ∃ k m : Int, v = .agg #[.int .i64 k, .int .i64 m] := by
 simp only [Value.okWide, Tryz.underlying60] at hv
 obtain ⟨cs, rfl, hsz, _⟩ := hv
 obtain ⟨fuel, hf⟩ := h
 have hc1 : Tryz.prog.cellsOf 3 = 1 := by kernel_rfl
 have hc2 : Tryz.prog.cellsOf 60 = 2 := by kernel_rfl
 rw [hc2] at hsz
 obtain ⟨xs, m, rfl, _, hl, hxs, hg⟩ := DataW.trod_array (cs := cs.toList) Tryz.underlying60 hf
 have f0 := hg 0 (by omega)
 have f1 := hg 1 (by omega)
 rw [hc1] at f0 f1
 rw [List.getElem?_eq_getElem (by omega)] at f0 f1
 obtain ⟨n0, q0, _, w0⟩ := DataW.trod_int Tryz.underlying3 f0
 obtain ⟨n1, q1, _, w1⟩ := DataW.trod_int Tryz.underlying3 f1
 refine ⟨n0, n1, ?_⟩
 congr 1
 apply Array.toList_inj.1
 rw [hc2] at hl
 generalize cs.toList = l at *
 match l, hl with
 | [a, b], _ =>
  simp at q0 q1
  simp [q0, q1]
end
end Go.Proofs.YtcgjgfgkdoohlaaGreatDoor
