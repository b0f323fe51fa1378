/- amblerlaw31.ScriptOps: its walk: whatever the operations and the kind, true. -/
import Derived.Test.YtgpkekdbohdbfaaGreatDoorScriptH
import Derived.Test.YtgpkekdbohdbfaaGreatDoorLaw30a
import Derived.Test.YtgpkekdbohdbfaaGreatDoorBackW
import Derived.Deep.Cut
import Derived.Deep.CutRange
namespace Go.Proofs.YtgpkekdbohdbfaaGreatDoor
open Go.RowKit AmS
theorem info_ROp : (Tryz.prog.info? 35).map (fun i => (i.zero, i.size, i.bytes)) = some (some (.agg #[.int .i64 0, .int .u64 0, .int .u64 0, .int .u64 0, .int .i64 0]), 5, 40) := by kernel_rfl
theorem slty_ROp : SlTy Tryz.prog 28 35 5 40 := slTy Tryz.underlying28 info_ROp rfl (by decide) (by decide)
theorem firstsGo_any (x : Int) : ∀ (l pre : List SOp), ((pre.any fun e => keyedP e.kind && e.key == x) || (firstsGo pre l).any (fun e => e.key == x)) = ((pre.any fun e => keyedP e.kind && e.key == x) || l.any (fun e => keyedP e.kind && e.key == x))
  | [], pre => by simp [firstsGo]
  | o :: t, pre => by
    have ih := firstsGo_any x t (pre ++ [o])
    have hs : sameKeyed o = fun e => keyedP e.kind && e.key == o.key := rfl
    simp only [List.any_append, List.any_cons, List.any_nil, Bool.or_false] at ih
    unfold firstsGo
    cases hK : keyedP o.kind with
    | false =>
      rw [hK] at ih
      simp only [Bool.false_and, Bool.or_false] at ih
      simp [ih, hK]
    | true =>
      rw [hK] at ih
      simp only [Bool.true_and] at ih
      cases hp : pre.any (sameKeyed o) with
      | true =>
        by_cases hx : o.key = x
        · subst hx
          rw [hs] at hp
          simp [hp]
        · have : (o.key == x) = false := by simpa using hx
          rw [this] at ih
          simp only [Bool.or_false] at ih
          simp [ih, hK, this]
      | false =>
        simp only [Bool.not_false, Bool.and_true, if_true, List.any_cons, hK, Bool.true_and]
        rw [← Bool.or_assoc, ih, Bool.or_assoc]
theorem firsts_any (l : List SOp) (o : SOp) : (firsts l).any (fun e => e.key == o.key) = l.any (sameKeyed o) := by
  have := firstsGo_any o.key l []
  simp only [List.any_nil, Bool.false_or] at this
  exact this
/-- an empty row in a block of its own -/
theorem own_empty (w : World) (base e size : Nat) (h : base ≤ w.heap.size) : (w.alloc (.cells #[] e)).ownsRow base e size (.slice (some ⟨w.heap.size, 0, none⟩) 0 0) 0 [] :=
  ⟨by simp, .inr ⟨w.heap.size, 0, #[], rfl, h, heap_alloc_new w _, by omega, by decide, by simp, by simp⟩⟩
theorem own_empty2 (w : World) (base e size : Nat) (o : Obj) (h : base ≤ w.heap.size) : ((w.alloc o).alloc (.cells #[] e)).ownsRow base e size (.slice (some ⟨w.heap.size + 1, 0, none⟩) 0 0) 0 [] := by
  have := own_empty (w.alloc o) base e size (by simp; omega)
  simpa using this
/-- none of the first so many entries is of the key, or one is -/
structure There (f : List SOp) (o : SOp) (j : Nat) (b : Bool) : Prop where
  is : (f.take j).any (fun e => e.key == o.key) = b
theorem hashCells_snoc (l : List SOp) (o : SOp) : hashCells (l ++ [o]) = hashCells l ++ entCells3 o.key 0 o.hash := by simp [hashCells]
theorem kinds4 (k : Int) : (keyedP k = true ∧ (k == 2) = true ∧ iterK k = false ∧ 0 < k ∧ k < 9) ∨ (keyedP k = true ∧ (k == 2) = false ∧ iterK k = false ∧ 0 < k ∧ k < 9) ∨
    (keyedP k = false ∧ (k == 2) = false ∧ iterK k = true ∧ 0 < k ∧ k < 9) ∨ (keyedP k = false ∧ (k == 2) = false ∧ iterK k = false) := by
  by_cases h1 : k = 1
  · subst h1; decide
  · by_cases h2 : k = 2
    · subst h2; decide
    · by_cases h3 : k = 3
      · subst h3; decide
      · by_cases h7 : k = 7
        · subst h7; decide
        · by_cases h8 : k = 8
          · subst h8; decide
          · refine .inr (.inr (.inr ⟨?_, ?_, ?_⟩))
            · simp [keyedP, h1, h2, h3]
            · simp [h2]
            · simp [iterK, h7, h8]
theorem names_cell (m : Nat) (h : m < 9) : (names.map strV).toArray[m]? = some (.string ⟨(names.getD m []).toArray⟩) := by
  have hl : names.length = 9 := rfl
  have : m < names.length := by omega
  simp [List.getElem?_eq_getElem this, strV]
theorem max100 {n : Nat} (h : ¬ (100 : Int) < (n : Int)) : n ≤ 100 := by omega
end Go.Proofs.YtgpkekdbohdbfaaGreatDoor
