/- amblerref30.Hex and words.Join by their contracts. -/
import Derived.Test.YtoohcnjilmcimaaBuilder
import Derived.Test.YtoohcnjilmcimaaHex
import Derived.Test.YtoohcnjilmcimaaBackP
import Derived.Test.YtoohcnjilmcimaaWordsU
import Derived.Test.YtoohcnjilmcimaaAlive30
import Derived.Test.YtoohcnjilmcimaaDecR
namespace Go.Proofs.Ytoohcnjilmcimaa
open Go.RowKit AmW

theorem tab16_ext (d : Nat) (h : d < 16) : ((⟨#[48, 49, 50, 51, 52, 53, 54, 55, 56, 57, 97, 98, 99, 100, 101, 102]⟩ : ByteArray).extract d (d + 1)).data.toList = [hexD d] := by
  exact match d, h with
  | 0, _ => rfl | 1, _ => rfl | 2, _ => rfl | 3, _ => rfl | 4, _ => rfl | 5, _ => rfl | 6, _ => rfl | 7, _ => rfl
  | 8, _ => rfl | 9, _ => rfl | 10, _ => rfl | 11, _ => rfl | 12, _ => rfl | 13, _ => rfl | 14, _ => rfl | 15, _ => rfl
  | k + 16, hk => absurd hk (by omega)
theorem bdata_append (a b : ByteArray) : (a ++ b).data.toList = a.data.toList ++ b.data.toList := by simp
/-- where the reference's loop stands -/
structure HexAt (n u f : Nat) (o : ByteArray) : Prop where
  lt : u < 16 ^ (f + 1)
  le : f ≤ 16
  eq : hexF f u ++ o.data.toList = hexs n
  top : u ≤ n
theorem HexAt.size {n u f : Nat} {o : ByteArray} (h : HexAt n u f o) : o.size ≤ 17 := by
  have h1 := congrArg List.length h.eq
  have h2 := hexs_length n
  have h3 : o.data.toList.length = o.size := by simp
  rw [List.length_append] at h1
  omega
theorem HexAt.next {n u f : Nat} {o e : ByteArray} (h : HexAt n u f o) (h16 : 16 ≤ u) (he : e.data.toList = [hexD (u % 16)]) : ∃ f', HexAt n (u / 16) f' (e ++ o) := by
  cases f with
  | zero => have := h.lt; simp at this; omega
  | succ f =>
    refine ⟨f, ?_, by have := h.le; omega, ?_, Nat.le_trans (Nat.div_le_self _ _) h.top⟩
    · have := h.lt
      rw [Nat.pow_succ] at this
      exact Nat.div_lt_of_lt_mul (by rw [Nat.mul_comm]; exact this)
    · rw [← h.eq, hexF_big f u h16, bdata_append, he]
      simp
theorem HexAt.fin {n u f : Nat} {o e : ByteArray} (h : HexAt n u f o) (h16 : u < 16) (he : e.data.toList = [hexD (u % 16)]) : (⟨#[48, 120]⟩ ++ (e ++ o) : ByteArray) = ⟨(48 :: 120 :: hexs n).toArray⟩ := by
  apply ByteArray.ext
  apply Array.toList_inj.1
  rw [bdata_append, bdata_append, he, ← h.eq, hexF_small f u h16, Nat.mod_eq_of_lt h16]
  simp

/-- a row of texts, read as the library reads it -/
theorem reads_texts {w : World} {B n : Nat} {A : Option Addr} {r : List Bts} (h : Reads w B 1 A n (r.map strV)) (hn : 0 < n) : ∃ b off, A = some ⟨b, off, none⟩ ∧ b < B ∧ ∀ (j : Nat) x, (r.map fun l => (⟨l.toArray⟩ : ByteArray))[j]? = some x → w.cell? ⟨b, off + j, none⟩ = some (.string x) := by
  obtain ⟨b, off, hA, hb, hc⟩ := h.cells_ hn
  refine ⟨b, off, hA, hb, fun j x hx => hc j _ ?_⟩
  rw [List.getElem?_map] at hx ⊢
  cases hr : r[j]? with
  | none => rw [hr] at hx; cases hx
  | some l =>
    rw [hr] at hx
    simp only [Option.map_some, Option.some.injEq] at hx
    subst hx
    rfl
theorem texts_data (r : List Bts) : (r.map fun l => (⟨l.toArray⟩ : ByteArray)).map (·.data.toList) = r := by
  rw [List.map_map]
  conv => rhs; rw [← List.map_id r]
  apply List.map_congr_left
  intro l _
  simp
theorem joined_take {L : List (Nat × List Bytes)} {k : Nat} {p : Nat × List Bytes} (h : L[k]? = some p) : joined (L.take (k + 1)) = joined (L.take k) ++ Lib.join p.2 [32] ++ [10] := by
  rw [List.take_add_one, h, joined_append]
  simp [joined]
theorem joined_take_le (L : List (Nat × List Bytes)) (k : Nat) : (joined (L.take k)).length ≤ (joined L).length := by
  conv => rhs; rw [← List.take_append_drop k L, joined_append, List.length_append]
  omega

theorem own_cap {w : World} {b e size n c : Nat} {A : Option Addr} {xs : List Value} (h : w.ownsRow b e size (.slice A n c) n xs) : n ≤ c := by
  rcases h.2 with ⟨hv, h0⟩ | ⟨g, cap, cur, hv, r⟩
  · omega
  · injection hv with _ _ hc
    have := r.2.2.1
    omega
end Go.Proofs.Ytoohcnjilmcimaa
