/- strings.Builder's writing methods by their contracts (this release's copyCheck). -/
import Derived.Test.YtoohcnjilmcimaaTexts
import Derived.Test.YtoohcnjilmcimaaShelf
import Derived.Shelf.Strings.BuilderX
import Derived.Lib.Builder
import Derived.Lib.AppendStr
import Derived.WalkKit
import Derived.WalkSpells
import Derived.WalkLawsBesides
import Derived.Laws.Externs
import Derived.Outline
namespace Go.Proofs.Ytoohcnjilmcimaa
open Go.RowKit

theorem bldAt_grown {T e B b : Nat} {p : Value} {bs : List Value} {w w' : World} (h : Lib.BuilderAt T e B b p bs w) (hb : Below w.heap.size w w') : Lib.BuilderAt T e B b p bs w' := by
  have hlt := h.lt
  obtain ⟨hB, v, h1, h2, h3⟩ := h
  exact ⟨hB, v, (hb.block b hlt).trans h1, own_below h2 hb (Nat.le_refl _), h3⟩
theorem info_byte : (Try.prog.info? 5).map (fun i => (i.zero, i.size, i.bytes)) = some (some (.int .u8 0), 1, 1) := by kernel_rfl

end Go.Proofs.Ytoohcnjilmcimaa
