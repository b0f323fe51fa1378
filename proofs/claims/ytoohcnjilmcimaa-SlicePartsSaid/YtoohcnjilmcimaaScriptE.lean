/- script.One by its contract. -/
import Derived.Test.YtoohcnjilmcimaaScriptD
import Derived.Test.YtoohcnjilmcimaaKit2
import Derived.BigRegion
import Derived.ChangeAlike
namespace Go.Proofs.Ytoohcnjilmcimaa
open Go.RowKit AmS AmD

def nameBs : List ByteArray := names.map fun l => ⟨l.toArray⟩
/-- the place of a word among the kinds' words -/
theorem idx_kind (x : ByteArray) : (kindOf x.data.toList = 0 ∧ isKind (Lib.idxOfS nameBs x) = false) ∨ (1 ≤ kindOf x.data.toList ∧ Lib.idxOfS nameBs x = (kindOf x.data.toList : Int)) := by
  have H : ∀ l : List UInt8, ((⟨l.toArray⟩ : ByteArray) = x) = (l = x.data.toList) := by
    intro l
    apply propext
    constructor
    · intro e; rw [← e]
    · intro e
      apply ByteArray.ext
      apply Array.toList_inj.1
      exact e
  unfold Lib.idxOfS nameBs names
  simp only [List.map_cons, List.map_nil, Lib.idxFromS, H]
  unfold kindOf
  generalize x.data.toList = l
  by_cases h0 : [] = l
  · subst h0; left; simp [isKind]
  · by_cases h1 : l = [103, 101, 116]
    · subst h1; right; decide
    · by_cases h2 : l = [112, 117, 116]
      · subst h2; right; decide
      · by_cases h3 : l = [100, 101, 108]
        · subst h3; right; decide
        · by_cases h4 : l = [108, 101, 110]
          · subst h4; right; decide
          · by_cases h5 : l = [99, 108, 101, 97, 114]
            · subst h5; right; decide
            · by_cases h6 : l = [111, 112, 101, 110]
              · subst h6; right; decide
              · by_cases h7 : l = [110, 101, 120, 116]
                · subst h7; right; decide
                · by_cases h8 : l = [99, 108, 111, 115, 101]
                  · subst h8; right; decide
                  · left
                    simp only [h1, h2, h3, h4, h5, h6, h7, h8, if_false, h0, eq_comm (b := l)]
                    simp [isKind]

def nilOp : Value := .agg #[.int .i64 0, .int .u64 0, .int .u64 0, .int .u64 0, .int .i64 0]
/-- the row, opened: its first word -/
theorem one_cons {w : World} {A : Option Addr} {n : Nat} {l : List Bts} (hn : 0 < n) (h : Reads w w.heap.size 1 A n (l.map strV)) : ∃ b off x r, A = some ⟨b, off, none⟩ ∧ b < w.heap.size ∧ l = x :: r ∧ r.length + 1 = n ∧ w.cell? ⟨b, off, none⟩ = some (.string ⟨x.toArray⟩) ∧
    ∀ j y, r[j]? = some y → w.cell? ⟨b, off + 1 + j, none⟩ = some (.string ⟨y.toArray⟩) := by
  obtain ⟨b, off, rfl, hb, hc⟩ := h.cells_ hn
  have hl : l.length = n := by simpa using h.1
  obtain ⟨x, r, rfl⟩ : ∃ x r, l = x :: r := by
    cases l with
    | nil => simp at hl; omega
    | cons x r => exact ⟨x, r, rfl⟩
  refine ⟨b, off, x, r, rfl, hb, rfl, by simpa using hl, hc 0 _ rfl, fun j y hy => ?_⟩
  have := hc (j + 1) (strV y) (by simp [hy])
  rw [show off + (j + 1) = off + 1 + j by omega] at this
  exact this

theorem size_str (w : World) : (sizeOf 9).run Try.prog w = .ok 1 w := by kernel_rfl
theorem info_u64 : (Try.prog.info? 27).map (fun i => (i.zero, i.size, i.bytes)) = some (some (.int .u64 0), 1, 8) := by kernel_rfl
theorem slty_u64 : SlTy Try.prog 23 27 1 8 := slTy Try.underlying23 info_u64 rfl (by decide) (by decide)
def u64s (ns : List Nat) : List Value := ns.map fun n : Nat => Value.int .u64 (n : Int)
/-- where the loop of script.One stands -/
structure OneAt (W : World) (k : Nat) (r : List Bts) (R : Except Nat (List Nat)) (j : Nat) (ns : List Nat) (v : Value) (wr : World) : Prop where
  own : wr.ownsRow W.heap.size 27 1 v ns.length (u64s ns)
  rest : numsE k ns (r.drop j) = R
  len : ns.length = j
  below : Below W.heap.size W wr
theorem OneAt.append {W w w' : World} {k : Nat} {r : List Bts} {R : Except Nat (List Nat)} {j : Nat} {ns : List Nat} {v v' : Value} {n : Nat} (hb : Below W.heap.size W w) (hl : ns.length = j) (hrest : numsE k (ns ++ [n]) (r.drop (j + 1)) = R)
    (hown : w'.ownsRow W.heap.size 27 1 v' (ns.length + 1) (u64s ns ++ [.int .u64 (n : Int)])) (g : Grew w W.heap.size v w' v') : OneAt W k r R (j + 1) (ns ++ [n]) v' w' :=
  ⟨by rw [List.length_append]; simpa [u64s] using hown, hrest, by simp [hl], hb.trans g.below⟩
theorem drop_bts {r : List Bts} {j : Nat} {y : Bts} (h : r[j]? = some y) : r.drop j = y :: r.drop (j + 1) := by
  obtain ⟨h1, h2⟩ := List.getElem?_eq_some_iff.1 h
  rw [List.drop_eq_getElem_cons h1, h2]

end Go.Proofs.Ytoohcnjilmcimaa
