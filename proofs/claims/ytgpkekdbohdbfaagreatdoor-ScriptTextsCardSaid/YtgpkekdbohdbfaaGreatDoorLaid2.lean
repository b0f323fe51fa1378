/- From what a row lists of the package-level variables to single facts on the world: one error at a time. -/
import Derived.Test.YtgpkekdbohdbfaaGreatDoorLaid
namespace Go.Proofs.YtgpkekdbohdbfaaGreatDoor
open Go.RowKit Go.ChangeShapes Go.WideShapes Go.ChangeAt

set_option maxRecDepth 100000 in
/-- an error on the list lies in its variable -/
theorem err_cell {l : List (String × DataW Unit)} {W : World} (h : laidMet Tryz.prog l W) (p : Nat) {n : String} {text : List UInt8} {g : Nat} (hl : l[p]? = some (n, errD text)) (hg : Tryz.prog.globalNamed n = some g) (ht : (Tryz.prog.globals[g]?).map (·.type) = some 25) :
    ∃ a, W.cell? ⟨g, 0, none⟩ = some (.iface 145 (.pointer (some a))) := by
  obtain ⟨ps, hv, hnd, hrows⟩ := h
  obtain ⟨pl, e1, e2, e3⟩ := laid_parts l ps hv
  obtain ⟨g', t, cs, fuel, p', h1, h2, h3, h4, h5⟩ := e3 _ _ _ hl
  obtain rfl := Option.some.inj (hg.symm.trans h1)
  obtain rfl := Option.some.inj (ht.symm.trans h2)
  have hmem : ∀ x ∈ MemPlace.row ⟨g, 0, none⟩ cs.size ++ p', x ∈ ps := by
    intro x hx
    rw [e1]
    exact List.mem_flatten.2 ⟨_, List.mem_of_getElem? h5, hx⟩
  obtain ⟨l0⟩ := cs
  have ok0 : ∀ u v, l0 = [.iface u v] → Value.okWide Tryz.prog W .any 0 u v := fun u v e => by
    subst e
    exact (hrows g 0 (hmem _ (by simp [MemPlace.row]))).2 u v (by simpa using World.var?_cell hg h3 0)
  obtain ⟨a0, s0, rfl, hc0, hs0, hz0, rfl⟩ := errorString_of_trod Tryz.underlying25 typeName_err Tryz.underlying145 Tryz.underlying147 rfl rfl Tryz.underlying9 (by kernel_rfl) (by kernel_rfl) h4 ok0
  exact ⟨a0, by simpa using World.var?_cell hg h3 0⟩
/-- the addresses of the errors, as the world has them -/
def pickE (W : World) (k : Nat) : Addr := match W.cell? ⟨gE k, 0, none⟩ with
  | some (.iface _ (.pointer (some a))) => a
  | _ => default
theorem pickE_at {W : World} {k : Nat} (h : ∃ a, W.cell? ⟨gE k, 0, none⟩ = some (.iface 145 (.pointer (some a)))) : ErrAt (pickE W) W k := by
  obtain ⟨a, ha⟩ := h
  unfold ErrAt pickE
  rw [ha]
end Go.Proofs.YtgpkekdbohdbfaaGreatDoor
