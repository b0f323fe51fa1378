/- amblerlaw30.WordsNumbers: its walk: whatever the word and the bound, true. -/
import Derived.Test.YtgpkekdbohdbfaaGreatDoorLaw30a
import Derived.Test.YtgpkekdbohdbfaaGreatDoorDecL
import Derived.Test.YtgpkekdbohdbfaaGreatDoorDecR
namespace Go.Proofs.YtgpkekdbohdbfaaGreatDoor
open Go.RowKit AmD

/-- the reference's two cases, and what the program makes of them -/
def IsHexWord (s : ByteArray) : Prop := 2 < s.size ∧ s.extract 0 2 = ⟨#[48, 120]⟩
theorem hexWord_prefix {s : ByteArray} (h : IsHexWord s) : ∃ r, s.data.toList = 48 :: 120 :: r := by
  have e := ext2 s
  rw [h.2] at e
  have hl : s.data.toList.length = s.size := by simp
  refine ⟨s.data.toList.drop 2, ?_⟩
  have := List.take_append_drop 2 s.data.toList
  rw [← e] at this
  exact this.symm
theorem numOf_hex {s : ByteArray} (h : IsHexWord s) : numOf s.data.toList = hex (s.data.toList.drop 2) ∧ dec s.data.toList = none := by
  obtain ⟨r, hr⟩ := hexWord_prefix h
  rw [hr]
  refine ⟨by simp [numOf, Lib.hasPrefix, Lib.trimPrefix, List.isPrefixOf], ?_⟩
  exact dec_bad (l := 48 :: 120 :: r) (k := 1) (by simp) (by show isDig 120 = false; decide)
theorem numOf_dec {s : ByteArray} (h : ¬ IsHexWord s) : numOf s.data.toList = dec s.data.toList := by
  unfold numOf
  cases hp : Lib.hasPrefix s.data.toList [48, 120] with
  | false => simp
  | true =>
    have hl : s.data.toList.length = s.size := by simp
    obtain ⟨r, hr⟩ : ∃ r, s.data.toList = 48 :: 120 :: r := by
      unfold Lib.hasPrefix at hp
      rw [List.isPrefixOf_iff_prefix] at hp
      obtain ⟨r, hr⟩ := hp
      exact ⟨r, hr.symm⟩
    have hz : r = [] := by
      apply Classical.byContradiction
      intro hne
      have hlen : 0 < r.length := List.length_pos_iff.2 hne
      apply h
      refine ⟨by rw [hr] at hl; simp at hl; omega, ?_⟩
      have e := ext2 s
      rw [hr] at e
      apply ByteArray.ext
      exact Array.toList_inj.1 e
    subst hz
    rw [hr]
    have e1 : dec [48, 120] = none := dec_bad (l := [48, 120]) (k := 1) (by simp) (by decide)
    rw [e1]
    simp [Lib.trimPrefix, Lib.hasPrefix, hex]

/-- the five calls' frames, joined -/
theorem nb5 {w w1 w2 w3 w4 w5 : World} (h1 : Below w.heap.size w w1) (h2 : Below w1.heap.size w1 w2) (h3 : Below w2.heap.size w2 w3) (h4 : Below w3.heap.size w3 w4) (h5 : Below w4.heap.size w4 w5) : Below w.heap.size w w5 := by
  have s1 := h1.size
  have s2 := h2.size
  have s3 := h3.size
  have s4 := h4.size
  exact h1.trans ((h2.mono s1).trans ((h3.mono (by omega)).trans ((h4.mono (by omega)).trans (h5.mono (by omega)))))
theorem nb6 {w w1 w2 w3 w4 w5 w6 : World} (h1 : Below w.heap.size w w1) (h2 : Below w1.heap.size w1 w2) (h3 : Below w2.heap.size w2 w3) (h4 : Below w3.heap.size w3 w4) (h5 : Below w4.heap.size w4 w5) (h6 : Below w5.heap.size w5 w6) : Below w.heap.size w w6 :=
  (nb5 h1 h2 h3 h4 h5).trans (h6.mono (by have := h1.size; have := h2.size; have := h3.size; have := h4.size; have := h5.size; omega))

end Go.Proofs.YtgpkekdbohdbfaaGreatDoor
