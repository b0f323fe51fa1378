/- words.Split of a text that is not too long, by its contract. -/
import Derived.Test.YtoohcnjilmcimaaWordsT
namespace Go.Proofs.Ytoohcnjilmcimaa
open Go.RowKit AmW

theorem cut_size {l : Bytes} {b : ByteArray} (hb : CutIs l b) (hl : l.length ≤ 60000) : b.size ≤ 70000 := by
  have : b.data.toList.length = b.size := by simp
  unfold CutIs at hb
  rw [hb] at this; omega
theorem split_below {w W0 wr w2 : World} {B B' : Nat} (_h0 : Below B w W0) (h : Below B' W0 wr) {nq : Nat} (h2 : Below (wr.drewN nq).heap.size (wr.drewN nq) w2) (hB : B' ≤ W0.heap.size) (_n : Nat) : Below B' W0 w2 :=
  (below_drewN h nq).trans (h2.mono (Nat.le_trans hB h.size))
theorem add_pos {acc : List (Nat × List Bytes)} {n : Nat} {row : List Bytes} (h : row ≠ []) : add acc n row = acc ++ [(n, row)] := by unfold add; rw [if_neg h]
theorem add_zero (acc : List (Nat × List Bytes)) (n : Nat) : add acc n [] = acc := rfl

end Go.Proofs.Ytoohcnjilmcimaa
