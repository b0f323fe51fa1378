/- trial -/
import Derived.Test.YtoohcnjilmcimaaProg
import Derived.Test.YtoohcnjilmcimaaKit
import Derived.Test.YtoohcnjilmcimaaSliceP
import Derived.Test.YtoohcnjilmcimaaOps
import Derived.Tactics
import Derived.Tactics2
import Derived.WalkKit
import Derived.WalkSpells
import Derived.WalkLawsBesides
import Derived.KernelRfl
import Derived.Outline
import Derived.Shelf.Abstract
namespace Go.Proofs.Ytoohcnjilmcimaa
open Go.RowKit AmS

def KeepFn (w0 : World) (g : Nat) (cap : Array Value) (K : Nat → SOp → Bool) (l : List SOp) : Prop :=
  ∀ (W : World) (i : Nat) (o : SOp), l[i]? = some o → Below w0.heap.size w0 W → Calls Try.prog g (#[.int .i64 i, opV o] ++ cap) W fun e W' => e = .returned (.bool (K i o)) ∧ Below W.heap.size W W'

set_option maxHeartbeats 400000 in
theorem slice_kept (A : Option Addr) (n c : Nat) (l : List SOp) (w : World) (g : Nat) (cap : Array Value) (K : Nat → SOp → Bool) (h : Reads w w.heap.size 5 A n (opsCells l)) (hn : n ≤ 65536)
    (eg : ∀ args w, (callFunc g args).run Try.prog w = .ok (.enter g args) w) (hK : KeepFn w g cap K l) :
    Calls Try.prog 26 #[.slice A n c, .func (.func g) #[] cap] w fun e w' => ∃ v, e = .returned v ∧ w'.ownsRow w.heap.size 29 5 v (keptF K 0 l).length (opsCells (keptF K 0 l)) ∧ Below w.heap.size w w' := by
  have hl : l.length = n := by have := h.1; rw [opsCells_length] at this; omega
  go_enter Try.func26, Try.ntmps26
  go_wp2
  go_loopw [5, 6, 7, 10] (fun v _ _ i wr => ∃ k : Nat, k ≤ n ∧ i = .int .i64 k ∧ wr.ownsRow w.heap.size 29 5 v (keptF K 0 (l.take k)).length (opsCells (keptF K 0 (l.take k))) ∧ Below w.heap.size w wr) (fun _ _ _ i _ => n - (intOf i).toNat)
  case atStart => exact ⟨0, by omega, rfl, by simp [keptF, opsCells]; exact World.ownsRow_nil _ _ _ _, Below.refl _ _⟩
  case round =>
    obtain ⟨k, hk, rfl, hown, hB⟩ := hrel
    by_cases hlt : k < n
    · have ho : l[k]? = some (l[k]'(by omega)) := List.getElem?_eq_getElem _
      generalize l[k]'(by omega) = o at ho
      obtain ⟨b, off, rfl, hb, c0, c1, c2, c3, c4⟩ := op_cells (h.below hB) ho
      have Ho := Lib.hid ho
      clear ho
      have hkl : (keptF K 0 (l.take k)).length ≤ k := Nat.le_trans (keptF_length K (l.take k) 0) (List.length_take_le _ _)
      have hks := keptF_snoc K o (l.take k) 0
      have htk : l.take (k + 1) = l.take k ++ [o] := by rw [List.take_add_one, Ho.out]; rfl
      have htl : (l.take k).length = k := by rw [List.length_take]; omega
      have HS : Hid (keptF K 0 (l.take (k + 1)) = keptF K 0 (l.take k) ++ (if K k o then [o] else [])) := by rw [htk, hks, htl, Nat.zero_add]; exact rfl
      clear hks htk htl
      have HK := Lib.hid (hK · k o Ho.out)
      have hA1 : ∀ x, Below w.heap.size w (wr.alloc x) := fun x => hB.alloc hB.size x
      clear hK
      go_wp2_with (first
        | (go_at_fn g; refine (HK.out _ (hA1 _)).mono ?_; rintro e w1 ⟨rfl, hb1⟩; obtain ⟨hc1, hf1⟩ := bcell hb1; have hbw := (hA1 _).trans (hb1.mono (by have := hB.size; simp; omega)); have hown1 := own_below (hown.alloc _) hb1 (Nat.le_refl _); have hbs1 := hbw.size)
        | (at_builtin; refine wpList_append1 rfl rfl slty_Op hown1 rfl rfl (by simp) rfl rfl (by omega) hbs1 ?_; intro v2 w2 hown2 hg2))
      · go_roundw
        case rel => exact ⟨k + 1, by omega, by go_num, by rw [HS.out, if_pos (by assumption)]; simpa [opsCells, opCells] using hown2, hbw.trans hg2.below⟩
        case measure => simp [intOf]; omega
      · go_roundw
        case rel => exact ⟨k + 1, by omega, by go_num, by rw [HS.out, if_neg (by simp [*])]; simpa using hown1, hbw⟩
        case measure => simp [intOf]; omega
    · go_wp2
      go_ret
      exact ⟨_, rfl, by rw [List.take_of_length_le (by omega)] at hown; exact hown, hB⟩
end Go.Proofs.Ytoohcnjilmcimaa
