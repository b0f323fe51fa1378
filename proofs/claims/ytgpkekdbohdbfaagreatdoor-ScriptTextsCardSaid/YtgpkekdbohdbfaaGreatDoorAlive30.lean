/- amblerlaw30.alive: the chapter's example. -/
import Derived.Test.YtgpkekdbohdbfaaGreatDoorWordsU
import Derived.Test.YtgpkekdbohdbfaaGreatDoorHex
import Derived.Test.YtgpkekdbohdbfaaGreatDoorTexts
import Derived.WalkKit
import Derived.WalkSpells
import Derived.WalkLawsBesides
import Derived.Outline
namespace Go.Proofs.YtgpkekdbohdbfaaGreatDoor
open Go.RowKit AmW

/-- what the world holds for the words and the figures -/
structure LibB (E : Nat → Addr) (w : World) : Prop where
  words : WordsIn E w
  tz : w.cell? ⟨26, 15, none⟩ = some (.int .u8 4)
theorem LibB.of_block {E : Nat → Addr} {w w' : World} (h : LibB E w) (hb : ∀ k, k < w.heap.size → w'.heap[k]? = w.heap[k]?) : LibB E w' :=
  ⟨h.words.of_block hb, (World.cell?_of_block (hb _ (World.block_lt_of_cell? w _ h.tz))).trans h.tz⟩
theorem LibB.below {E : Nat → Addr} {w w' : World} {B : Nat} (h : LibB E w) (hb : Below B w w') (hB : w.heap.size ≤ B) : LibB E w' := h.of_block fun k hk => hb.block k (by omega)
theorem LibB.alloc {E : Nat → Addr} {w : World} (h : LibB E w) (o : Obj) : LibB E (w.alloc o) := h.of_block fun k hk => Below.heap_alloc w o k hk
theorem LibB.drewN {E : Nat → Addr} {w : World} (h : LibB E w) (n : Nat) : LibB E (w.drewN n) := h.of_block fun _ _ => rfl

/-- the same, and all errors of package api -/
structure LibIn (E : Nat → Addr) (w : World) : Prop where
  lib : LibB E w
  errs : ErrsIn E w
theorem LibIn.words {E : Nat → Addr} {w : World} (h : LibIn E w) : WordsIn E w := h.lib.words
theorem LibIn.of_block {E : Nat → Addr} {w w' : World} (h : LibIn E w) (hb : ∀ k, k < w.heap.size → w'.heap[k]? = w.heap[k]?) : LibIn E w' := ⟨h.lib.of_block hb, h.errs.of_block hb⟩
theorem LibIn.below {E : Nat → Addr} {w w' : World} {B : Nat} (h : LibIn E w) (hb : Below B w w') (hB : w.heap.size ≤ B) : LibIn E w' := h.of_block fun k hk => hb.block k (by omega)
theorem LibIn.alloc {E : Nat → Addr} {w : World} (h : LibIn E w) (o : Obj) : LibIn E (w.alloc o) := h.of_block fun k hk => Below.heap_alloc w o k hk
theorem LibIn.drewN {E : Nat → Addr} {w : World} (h : LibIn E w) (n : Nat) : LibIn E (w.drewN n) := h.of_block fun _ _ => rfl

theorem quiet_left {P : Program} {f : FuncId} {args : Array Value} {w : World} {n : Nat} {v : Value}
    (h : Calls P f args (w.drewN n) fun e w' => e = .returned v ∧ w.drewN n = w') : Calls P f args (w.drewN n) fun e w'' => e = .returned v ∧ ∃ m, w'' = w.drewN m :=
  h.mono fun _ _ ⟨he, hm⟩ => ⟨he, n, hm.symm⟩

/-- the cells of line i, and its words, read -/
theorem LinesOwn.at_ {w : World} {base : Nat} {v : Value} {L : List (Nat × List Bts)} (h : LinesOwn w base v L) {i : Nat} {p : Nat × List Bts} (hp : L[i]? = some p) :
    ∃ g c A c', v = .slice (some ⟨g, 0, none⟩) L.length c ∧ g < w.heap.size ∧ w.cell? ⟨g, i * 2, none⟩ = some (.int .i64 (p.1 : Int)) ∧ w.cell? ⟨g, i * 2 + 1, none⟩ = some (.slice A p.2.length c') ∧ Reads w w.heap.size 1 A p.2.length (p.2.map strV) := by
  obtain ⟨vs, h1, h2, h3⟩ := h
  obtain ⟨u, hu, hs⟩ := h3 i p hp
  have hi : i < L.length := (List.getElem?_eq_some_iff.1 hp).1
  obtain ⟨g, cap, rfl, hg, hlt⟩ := h1.form (by omega)
  obtain ⟨A, c', rfl⟩ := own_form hs
  have hcells := h1.cells (g := g) rfl
  have hget : ∀ (L : List (Nat × List Bts)) (vs : List Value) (i : Nat) (p : Nat × List Bts) (u : Value), L[i]? = some p → vs[i]? = some u → (lineCells L vs)[i * 2]? = some (.int .i64 (p.1 : Int)) ∧ (lineCells L vs)[i * 2 + 1]? = some u := by
    intro L
    induction L with
    | nil => intro vs i p u h; simp at h
    | cons q L ih =>
      intro vs i p u hp hu
      cases vs with
      | nil => simp at hu
      | cons y vs =>
        cases i with
        | zero =>
          simp only [List.getElem?_cons_zero, Option.some.injEq] at hp hu
          subst hp; subst hu
          simp [lineCells]
        | succ i =>
          simp only [List.getElem?_cons_succ] at hp hu
          have := ih vs i p u hp hu
          have e : lineCells (q :: L) (y :: vs) = .int .i64 (q.1 : Int) :: y :: lineCells L vs := by simp [lineCells]
          rw [e, show (i + 1) * 2 = i * 2 + 1 + 1 by omega]
          simpa using this
  obtain ⟨c1, c2⟩ := hget L vs i p _ hp hu
  have hadd : ∀ j, (⟨g, 0, none⟩ : Addr).add j = ⟨g, j, none⟩ := fun j => by unfold Addr.add; split <;> simp_all
  have e1 := hcells _ _ c1
  have e2 := hcells _ _ c2
  rw [hadd] at e1 e2
  exact ⟨g, cap, A, c', rfl, hlt, e1, e2, Reads.of_own hs⟩

def exText : Bts := [112, 117, 116, 32, 49, 32, 32, 48, 120, 50, 32, 35, 32, 120]
def exRow : List Bts := [[112, 117, 116], [49], [48, 120, 50]]
theorem ex_split : goSplit [] 1 (lines exText) = .ok [(1, exRow)] := by rfl

theorem alive30_below {w1 w3 : World} {o : Obj} {B : Nat} (h : Below (w1.alloc o).heap.size (w1.alloc o) w3) (hB : B ≤ w1.heap.size) : Below B w1 w3 :=
  ((Below.refl B w1).alloc hB o).trans (h.mono (by simp; omega))
theorem ex_reads (w : World) : Reads (w.alloc (.cells (exRow.map strV).toArray 9)) (w.alloc (.cells (exRow.map strV).toArray 9)).heap.size 1 (some ⟨w.heap.size, 0, none⟩) 3 (exRow.map strV) := by
  refine ⟨rfl, fun _ => ⟨w.heap.size, 0, rfl, by simp, fun j u hu => ?_⟩⟩
  rw [Nat.zero_add, (Blk.new w 9 (exRow.map strV).toArray).cell]
  simpa using hu

end Go.Proofs.YtgpkekdbohdbfaaGreatDoor
