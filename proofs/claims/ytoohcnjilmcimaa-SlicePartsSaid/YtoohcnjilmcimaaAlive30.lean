/- amblerlaw30.alive: the chapter's example. -/
import Derived.Test.YtoohcnjilmcimaaWordsU
import Derived.Test.YtoohcnjilmcimaaHex
import Derived.Test.YtoohcnjilmcimaaTexts
import Derived.WalkKit
import Derived.WalkSpells
import Derived.WalkLawsBesides
import Derived.Outline
namespace Go.Proofs.Ytoohcnjilmcimaa
open Go.RowKit AmW

theorem quiet_left {P : Program} {f : FuncId} {args : Array Value} {w : World} {n : Nat} {v : Value}
    (h : Calls P f args (w.drewN n) fun e w' => e = .returned v ∧ w.drewN n = w') : Calls P f args (w.drewN n) fun e w'' => e = .returned v ∧ ∃ m, w'' = w.drewN m :=
  h.mono fun _ _ ⟨he, hm⟩ => ⟨he, n, hm.symm⟩

def exText : Bts := [112, 117, 116, 32, 49, 32, 32, 48, 120, 50, 32, 35, 32, 120]
def exRow : List Bts := [[112, 117, 116], [49], [48, 120, 50]]
theorem ex_split : goSplit [] 1 (lines exText) = .ok [(1, exRow)] := by rfl

theorem alive30_below {w1 w3 : World} {o : Obj} {B : Nat} (h : Below (w1.alloc o).heap.size (w1.alloc o) w3) (hB : B ≤ w1.heap.size) : Below B w1 w3 :=
  ((Below.refl B w1).alloc hB o).trans (h.mono (by simp; omega))
theorem ex_reads (w : World) : Reads (w.alloc (.cells (exRow.map strV).toArray 9)) (w.alloc (.cells (exRow.map strV).toArray 9)).heap.size 1 (some ⟨w.heap.size, 0, none⟩) 3 (exRow.map strV) := by
  refine ⟨rfl, fun _ => ⟨w.heap.size, 0, rfl, by simp, fun j u hu => ?_⟩⟩
  rw [Nat.zero_add, (Blk.new w 9 (exRow.map strV).toArray).cell]
  simpa using hu

end Go.Proofs.Ytoohcnjilmcimaa
